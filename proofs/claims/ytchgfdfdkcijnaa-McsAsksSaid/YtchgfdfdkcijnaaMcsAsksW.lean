/- Each step of any hand, at any words, is what the document says (the walk). -/
import Derived.Test.YtchgfdfdkcijnaaSc
import Derived.Test.YtchgfdfdkcijnaaDag
import Derived.Test.YtchgfdfdkcijnaaMemAll
namespace Go.Proofs.Ytchgfdfdkcijnaa
open Go.RowKit
theorem mod_bdT (z : Int) (n : Int) (h : 0 < n) : ∃ q, (IntKind.u64.wrap z).tmod n = q ∧ 0 ≤ q ∧ q < n := ⟨_, rfl, (u64_tmod_bd z n (by omega)).1, (u64_tmod_bd z n (by omega)).2⟩
def AnyHand (r : Bool) (w : World) (e : Ending) (w' : World) : Prop := ∃ t l s x : Int, e = .returned (.agg #[.int .i64 t, .int .i64 l, .int .i64 s, .bool r, .int .i64 x]) ∧ Keeps NoS w w'
set_option maxHeartbeats 1000000 in
set_option maxRecDepth 100000 in
theorem hand9_any (t l s : Int) (r : Bool) (x : Int) (w : World) : Calls Try.prog 22 #[.agg #[.int .i64 t, .int .i64 l, .int .i64 s, .bool r, .int .i64 x]] w (AnyHand r w) := by
  have hk0 : Keeps NoS w ((w.alloc (.cells #[.int .i64 t, .int .i64 l, .int .i64 s, .bool r, .int .i64 x] 32)).alloc (.cells #[.int .i64 0, .int .i64 0, .int .i64 0, .bool false, .int .i64 0] 32)) := ((Keeps.refl NoS w).alloc _).alloc _
  obtain ⟨B, hB⟩ : ∃ B, w.heap.size = B := ⟨_, rfl⟩
  have HB := Lib.hid hB
  have HK := Lib.hid hk0
  obtain ⟨q0, hq0, a0, b0⟩ := mod_bdT t 4 (by omega)
  obtain ⟨q1, hq1, a1, b1⟩ := mod_bdT l 2 (by omega)
  obtain ⟨q2, hq2, a2, b2⟩ := mod_bdT s 16 (by omega)
  obtain ⟨q4, hq4, a4, b4⟩ := mod_bdT x 10 (by omega)
  clear hB hk0
  go_enter Try.func22, Try.ntmps22
  go_wp2_with fail
  refine bodyPost_ret (v := .agg #[.int .i64 q0, .int .i64 q1, .int .i64 q2, .bool r, .int .i64 q4]) (by simp [results, Try.results22, go_sem, *]) rfl ⟨q0, q1, q2, q4, rfl, ?_⟩
  repeat (first | (with_reducible exact HK.out) | (with_reducible exact Keeps.refl _ _) | refine Keeps.alloc ?_ _ | refine kset HB.out ?_ _ (by show B ≤ _; dsimp only; first | omega | (have := HB.out; omega) | (rw [HB.out]; omega) | (simp [HB.out])) _)
theorem ak_keep3 {w wr : World} {B F H a c : Nat} {v u : Value} {M N : MemS} {t1 l1 s1 : Int} {rd : Bool} {x1 : Int} (hS : Sc w wr a c v u M N [(F, 49, #[.int .i64 2, .int .i64 2, .int .i64 4, .int .i64 0, .int .i64 2]), (B, 25, #[.int .i64 2, .int .i64 2, .int .i64 4, .int .i64 0, .int .i64 2]), (H, 32, #[.int .i64 t1, .int .i64 l1, .int .i64 s1, .bool rd, .int .i64 x1])]) : (wr.cell? ⟨F, 0, none⟩ = some (.int .i64 2) ∧ wr.cell? ⟨F, 1, none⟩ = some (.int .i64 2) ∧ wr.cell? ⟨F, 2, none⟩ = some (.int .i64 4) ∧ wr.cell? ⟨F, 3, none⟩ = some (.int .i64 0) ∧ wr.cell? ⟨F, 4, none⟩ = some (.int .i64 2)) ∧ (wr.cell? ⟨B, 0, none⟩ = some (.int .i64 2) ∧ wr.cell? ⟨B, 1, none⟩ = some (.int .i64 2) ∧ wr.cell? ⟨B, 2, none⟩ = some (.int .i64 4) ∧ wr.cell? ⟨B, 3, none⟩ = some (.int .i64 0) ∧ wr.cell? ⟨B, 4, none⟩ = some (.int .i64 2)) ∧ (wr.cell? ⟨H, 0, none⟩ = some (.int .i64 t1) ∧ wr.cell? ⟨H, 1, none⟩ = some (.int .i64 l1) ∧ wr.cell? ⟨H, 2, none⟩ = some (.int .i64 s1) ∧ wr.cell? ⟨H, 3, none⟩ = some (.bool rd) ∧ wr.cell? ⟨H, 4, none⟩ = some (.int .i64 x1)) := ⟨hS.bg.b0.cells5, hS.bg.tl.b0.cells5, hS.bg.tl.tl.b0.cells5⟩
theorem ak_keep5 {w wr : World} {B F H a c g1 g2 : Nat} {v u : Value} {M N : MemS} {t1 l1 s1 : Int} {rd : Bool} {x1 : Int} {t2 l2 s2 : Int} {r2 : Bool} {x2 : Int} (hS : Sc w wr a c v u M N ((g2, 32, #[.int .i64 t2, .int .i64 l2, .int .i64 s2, .bool r2, .int .i64 x2]) :: (g1, 32, #[.int .i64 t2, .int .i64 l2, .int .i64 s2, .bool r2, .int .i64 x2]) :: [(F, 49, #[.int .i64 2, .int .i64 2, .int .i64 4, .int .i64 0, .int .i64 2]), (B, 25, #[.int .i64 2, .int .i64 2, .int .i64 4, .int .i64 0, .int .i64 2]), (H, 32, #[.int .i64 t1, .int .i64 l1, .int .i64 s1, .bool rd, .int .i64 x1])])) : (wr.cell? ⟨F, 0, none⟩ = some (.int .i64 2) ∧ wr.cell? ⟨F, 1, none⟩ = some (.int .i64 2) ∧ wr.cell? ⟨F, 2, none⟩ = some (.int .i64 4) ∧ wr.cell? ⟨F, 3, none⟩ = some (.int .i64 0) ∧ wr.cell? ⟨F, 4, none⟩ = some (.int .i64 2)) ∧ (wr.cell? ⟨B, 0, none⟩ = some (.int .i64 2) ∧ wr.cell? ⟨B, 1, none⟩ = some (.int .i64 2) ∧ wr.cell? ⟨B, 2, none⟩ = some (.int .i64 4) ∧ wr.cell? ⟨B, 3, none⟩ = some (.int .i64 0) ∧ wr.cell? ⟨B, 4, none⟩ = some (.int .i64 2)) ∧ (wr.cell? ⟨H, 0, none⟩ = some (.int .i64 t1) ∧ wr.cell? ⟨H, 1, none⟩ = some (.int .i64 l1) ∧ wr.cell? ⟨H, 2, none⟩ = some (.int .i64 s1) ∧ wr.cell? ⟨H, 3, none⟩ = some (.bool rd) ∧ wr.cell? ⟨H, 4, none⟩ = some (.int .i64 x1)) ∧ (wr.cell? ⟨g1, 0, none⟩ = some (.int .i64 t2) ∧ wr.cell? ⟨g1, 1, none⟩ = some (.int .i64 l2) ∧ wr.cell? ⟨g1, 2, none⟩ = some (.int .i64 s2) ∧ wr.cell? ⟨g1, 3, none⟩ = some (.bool r2) ∧ wr.cell? ⟨g1, 4, none⟩ = some (.int .i64 x2)) ∧ (wr.cell? ⟨g2, 0, none⟩ = some (.int .i64 t2) ∧ wr.cell? ⟨g2, 1, none⟩ = some (.int .i64 l2) ∧ wr.cell? ⟨g2, 2, none⟩ = some (.int .i64 s2) ∧ wr.cell? ⟨g2, 3, none⟩ = some (.bool r2) ∧ wr.cell? ⟨g2, 4, none⟩ = some (.int .i64 x2)) :=
  ⟨hS.bg.tl.tl.b0.cells5, hS.bg.tl.tl.tl.b0.cells5, hS.bg.tl.tl.tl.tl.b0.cells5, hS.bg.tl.b0.cells5, hS.bg.b0.cells5⟩
set_option maxHeartbeats 40000000 in
set_option maxRecDepth 100000 in
theorem mcsAsks_walk (w : World) (p0 : Value) (L : List Int) (f0 : InI w p0 L) (_f1 : ∀ k, k < L.length → (Lit.int .i64 (L.getD k 0)).wf = true) (t0 : Int) (_e0 : (Lit.int .i64 t0).wf = true) (l0 : Int) (_e1 : (Lit.int .i64 l0).wf = true) (s0 : Int) (_e2 : (Lit.int .i64 s0).wf = true) (rd : Bool) (x0 : Int) (_e4 : (Lit.int .i64 x0).wf = true) (near drop : Bool) :
    Calls Try.prog 5 #[p0, .agg #[.int .i64 t0, .int .i64 l0, .int .i64 s0, .bool rd, .int .i64 x0], .bool near, .bool drop] w fun e w' => e = .returned (.bool true) ∧ Keeps NoS w w' := by
  obtain ⟨p, cap, rfl, hn, hc, _⟩ := f0
  have HW := Lib.hid hc
  clear hc _f1 _e0 _e1 _e2 _e4
  have h0 := (Bg.nil w).new #[.int .i64 t0, .int .i64 l0, .int .i64 s0, .bool rd, .int .i64 x0] 32
  obtain ⟨H, hH⟩ : ∃ H, w.heap.size = H := ⟨_, rfl⟩
  rw [hH] at h0
  have H0 := Lib.hid h0
  have hk0 : Keeps NoS w (w.alloc (.cells #[.int .i64 t0, .int .i64 l0, .int .i64 s0, .bool rd, .int .i64 x0] 32)) := (Keeps.refl NoS w).alloc _
  have HK0 := Lib.hid hk0
  clear h0 hk0
  by_cases h8 : L.length ≤ 8
  case neg =>
    go_enter Try.func5, Try.ntmps5
    have h8' : (8 : Int) < (L.length : Int) := by omega
    go_wp2_with (go_at_call 12; refine (told9_any _).mono ?_; rintro e w1 ⟨rfl, hk1⟩)
    go_ret
    exact ⟨rfl, HK0.out.trans hk1⟩
  obtain ⟨i0, hi, hz0, hz1, hz2⟩ := info_parts infoI64
  have mm1 : i0.bytes * 48 ≤ 281474976710656 := by rw [hz2]; omega
  have mm2 : 48 ≤ maxLen := by unfold maxLen; omega
  have MM := Lib.hid (And.intro mm1 mm2)
  have HI := Lib.hid (And.intro hi (And.intro hz0 hz1))
  clear mm1 mm2 hi hz0 hz1 hz2
  go_enter Try.func5, Try.ntmps5
  go_wp2_with fail
  (try rw [hH])
  generalize w.alloc (.cells #[.int .i64 t0, .int .i64 l0, .int .i64 s0, .bool rd, .int .i64 x0] 32) = wa at *
  clear hH
  refine (map8_any _).mono ?_
  rintro e wb ⟨rfl, hk1⟩
  have h1 := (H0.out.no hk1).new #[.int .i64 2, .int .i64 2, .int .i64 4, .int .i64 0, .int .i64 2] 25
  go_upto_if 23 with fail
  obtain ⟨B, hB⟩ : ∃ B, wb.heap.size = B := ⟨_, rfl⟩
  rw [hB] at h1
  (try rw [hB])
  generalize wb.alloc (.cells #[.int .i64 2, .int .i64 2, .int .i64 4, .int .i64 0, .int .i64 2] 25) = wc at *
  have hBH : B ≠ H := fun e => by
    have h := h1.b0
    have h' := h1.tl.b0
    rw [e] at h
    have := h.symm.trans h'
    simp at this
  clear hB hk1 H0
  have H1 := Lib.hid h1
  clear h1
  go_cut [] (fun wx => ∃ t l s x : Int, Bg w wx [(B, 25, #[.int .i64 2, .int .i64 2, .int .i64 4, .int .i64 0, .int .i64 2]), (H, 32, #[.int .i64 t, .int .i64 l, .int .i64 s, .bool rd, .int .i64 x])])
  case first =>
    cases near
    · go_wp2_with fail
      go_meet
      exact ⟨_, _, _, _, H1.out⟩
    · obtain ⟨z0, z1, z2, z3, z4⟩ := H1.out.tl.b0.cells5
      go_wp2_with fail
      refine (hand9_any t0 l0 s0 rd x0 _).mono ?_
      rintro e wd ⟨q0, q1, q2, q4, rfl, hk2⟩
      have h2 := H1.out.no hk2
      clear z0 z1 z2 z3 z4
      obtain ⟨z0, z1, z2, z3, z4⟩ := h2.tl.b0.cells5
      have y0 := h2.tl.b0.free 0; have y1 := h2.tl.b0.free 1; have y2 := h2.tl.b0.free 2; have y3 := h2.tl.b0.free 3; have y4 := h2.tl.b0.free 4
      have kk := kput5 (wr := wd) H (.int .i64 q0) (.int .i64 q1) (.int .i64 q2) (.bool rd) (.int .i64 q4)
      have hlo := h2.tl.l0
      have hB' := h2.b0.far kk hBH
      have hH' := h2.tl.b0.put5 (.int .i64 q0) (.int .i64 q1) (.int .i64 q2) (.bool rd) (.int .i64 q4)
      have h3 := ((Bg.mk (l := []) (h2.kp.trans' kk (fun i hi e => by have e' : i = H := e; have hlo' : w.heap.size ≤ H := hlo; omega)) (by simp) (by simp)).push hlo hH').push h2.l0 hB'
      have H3 := Lib.hid h3
      clear h3 hH' hB' hlo kk h2 hk2
      go_wp2_with fail
      go_meet
      exact ⟨q0, q1, q2, q4, H3.out⟩
  case rest =>
    clear H1
    obtain ⟨t1, l1, s1, x1, h2⟩ := hcut
    obtain ⟨z0, z1, z2, z3, z4⟩ := h2.b0.cells5
    have H2 := Lib.hid h2
    clear h2
    go_wp2_with fail
    refine (ref_any ⟨2, 2, 4, 0, 2⟩ _).mono ?_
    rintro e wd ⟨rfl, hk2⟩
    unfold mapV; dsimp only
    have h3 := (H2.out.no hk2).new #[.int .i64 2, .int .i64 2, .int .i64 4, .int .i64 0, .int .i64 2] 49
    obtain ⟨F, hF⟩ : ∃ F, wd.heap.size = F := ⟨_, rfl⟩
    rw [hF] at h3
    clear z0 z1 z2 z3 z4
    obtain ⟨z0, z1, z2, z3, z4⟩ := h3.b0.cells5
    have H3 := Lib.hid h3
    have hkF := (Keeps.refl NoS wd).alloc (.cells #[.int .i64 2, .int .i64 2, .int .i64 4, .int .i64 0, .int .i64 2] 49)
    clear h3 hk2 H2
    go_wp2_with fail
    (try rw [hF])
    generalize wd.alloc (.cells #[.int .i64 2, .int .i64 2, .int .i64 4, .int .i64 0, .int .i64 2] 49) = we at *
    clear hF hkF
    refine (rsize_lit 2 2 4 0 2 48 m9_size _).mono ?_
    rintro e wf ⟨rfl, hk3⟩
    have H4 := Lib.hid (H3.out.no hk3)
    clear H3 hk3 z0 z1 z2 z3 z4
    go_wp2_with (refine wpList_make_full _ rfl _ _ 47 rfl 0 2 i0 (.int .i64 0) 1 Try.underlying47 HI.out.1 HI.out.2.1 HI.out.2.2 .i64 .i64 _ _ 48 rfl rfl rfl rfl MM.out.1 MM.out.2 (Nat.zero_le _) ?_; intro wg hown hgr; have hkg : Keeps NoS wf wg := (Keeps.refl NoS wf).grown hgr (fun k hk => by cases hk); have HOW := Lib.hid hown; have HKG := Lib.hid hkg; have hLb : ∃ Lb, wf.heap.size = Lb := ⟨_, rfl⟩; clear hown hgr hkg)
    obtain ⟨Lb, hLb⟩ := hLb
    (try rw [hLb])
    rw [hLb] at HOW
    have hof := H4.out.fresh
    rw [hLb] at hof
    have hz : Zr wg Lb (List.replicate 48 0) := ⟨by
      have h := HOW.out
      have e : (madeCells (Value.int .i64 0).cells (48 * 1)).toList = intsV (List.replicate 48 0) := by kernel_rfl
      rwa [e] at h, by simp⟩
    have h5 := H4.out.no HKG.out
    have H5 := Lib.hid h5; have HZ := Lib.hid hz; have HOF := Lib.hid hof
    clear HOW hLb HKG h5 hz hof H4
    go_loopw [12] (fun iv wq => ∃ (k : Nat) (zs : List Int), k ≤ L.length ∧ iv = .int .i64 k ∧ Bg w wq [(F, 49, #[.int .i64 2, .int .i64 2, .int .i64 4, .int .i64 0, .int .i64 2]), (B, 25, #[.int .i64 2, .int .i64 2, .int .i64 4, .int .i64 0, .int .i64 2]), (H, 32, #[.int .i64 t1, .int .i64 l1, .int .i64 s1, .bool rd, .int .i64 x1])] ∧ Zr wq Lb zs) (fun iv _ => L.length - (intOf iv).toNat)
    case atStart => exact ⟨0, _, by omega, rfl, H5.out, HZ.out⟩
    case round =>
      obtain ⟨k, zs, hk, rfl, hb, hz⟩ := hrel
      have HB := Lib.hid hb; have HZ' := Lib.hid hz
      obtain ⟨z0, z1, z2, z3, z4⟩ := hb.b0.cells5
      clear hb hz H5 HZ
      by_cases hlt : k < L.length
      · obtain ⟨b, off, rfl, hcs⟩ := HW.out (fun e => by rw [e] at hlt; simp at hlt)
        have cn := HB.out.kp.cell (hcs k hlt) (fun f => f)
        clear hcs
        generalize L.getD k 0 = z at cn
        obtain ⟨x, hx, _, _⟩ := mod_bdT z 10 (by omega)
        have k0 : (0 : Int) ≤ (k : Int) := by omega
        have k8 : (k : Int) < 8 := by omega
        have hput : ∀ (i : Nat) (w' : World), i < 48 → Bg w w' [(F, 49, #[.int .i64 2, .int .i64 2, .int .i64 4, .int .i64 0, .int .i64 2]), (B, 25, #[.int .i64 2, .int .i64 2, .int .i64 4, .int .i64 0, .int .i64 2]), (H, 32, #[.int .i64 t1, .int .i64 l1, .int .i64 s1, .bool rd, .int .i64 x1])] → Zr w' Lb zs → Bg w (w'.setCell ⟨Lb, i, none⟩ (.int .i64 x)) [(F, 49, #[.int .i64 2, .int .i64 2, .int .i64 4, .int .i64 0, .int .i64 2]), (B, 25, #[.int .i64 2, .int .i64 2, .int .i64 4, .int .i64 0, .int .i64 2]), (H, 32, #[.int .i64 t1, .int .i64 l1, .int .i64 s1, .bool rd, .int .i64 x1])] ∧ Zr (w'.setCell ⟨Lb, i, none⟩ (.int .i64 x)) Lb (zs.set i x) := fun i w' hi hb hz =>
          ⟨hb.far HOF.out ((Keeps.refl (just Lb) w').setCell (p := ⟨Lb, i, none⟩) (fun _ => rfl) _), hz.put i x⟩
        have HP := Lib.hid hput
        clear hput
        by_cases e0 : k % 3 = 0
        · have d0 : ((k : Int) % 3 == 0) = true := by simp; omega
          obtain ⟨q, hq, hq2⟩ : ∃ q : Nat, (k : Int) / 3 % 2 = (q : Int) ∧ q < 2 := ⟨k / 3 % 2, by omega, by omega⟩
          obtain ⟨n, hn, hn48⟩ : ∃ n : Nat, lockP ⟨2, 2, 4, 0, 2⟩ q 0 = (n : Int) ∧ n < 48 := ⟨tlA q, tlA_eq hq2, tlA_lt hq2⟩
          have HN := Lib.hid hn
          have n0 : (0 : Int) ≤ (n : Int) := by omega
          have n1 : (n : Int) < 48 := by omega
          clear hn e0
          go_wp2_with (go_at_call 25; refine (rlock_lit 2 2 4 0 2 q 0 n HN.out _).mono ?_; rintro e w5 ⟨rfl, hk5⟩; have hz5 := HZ'.out.no hk5; have c5 := hz5.cell hn48; have f5 := hz5.free n; have P5 := Lib.hid (HP.out n w5 hn48 (HB.out.no hk5) hz5); clear hz5)
          go_roundw
          case rel => exact ⟨k + 1, _, by omega, by go_num, P5.out.1, P5.out.2⟩
          case measure => simp [intOf]; omega
        · obtain ⟨q3, hq3, hq4⟩ : ∃ q : Nat, (k : Int) % 4 = (q : Int) ∧ q < 4 := ⟨k % 4, by omega, by omega⟩
          obtain ⟨q, hq, hq2⟩ : ∃ q : Nat, (k : Int) / 4 % 2 = (q : Int) ∧ q < 2 := ⟨k / 4 % 2, by omega, by omega⟩
          have d0 : ((k : Int) % 3 == 0) = false := by simp; omega
          by_cases e1 : k % 3 = 1
          · have d1 : ((k : Int) % 3 == 1) = true := by simp; omega
            obtain ⟨n, hn, hn48⟩ : ∃ n : Nat, nodeP ⟨2, 2, 4, 0, 2⟩ q3 q 0 = (n : Int) ∧ n < 48 := ⟨ndA q3 q 0, ndA_eq hq4 hq2 (p := 0) (by decide), ndA_lt hq4 hq2 (by decide)⟩
            have HN := Lib.hid hn
            have n0 : (0 : Int) ≤ (n : Int) := by omega
            have n1 : (n : Int) < 48 := by omega
            clear hn e0 e1
            go_wp2_with (go_at_call 26; refine (rnode_lit 2 2 4 0 2 q3 q 0 n HN.out _).mono ?_; rintro e w5 ⟨rfl, hk5⟩; have hz5 := HZ'.out.no hk5; have c5 := hz5.cell hn48; have f5 := hz5.free n; have P5 := Lib.hid (HP.out n w5 hn48 (HB.out.no hk5) hz5); clear hz5)
            go_roundw
            case rel => exact ⟨k + 1, _, by omega, by go_num, P5.out.1, P5.out.2⟩
            case measure => simp [intOf]; omega
          · have d1 : ((k : Int) % 3 == 1) = false := by simp; omega
            obtain ⟨n, hn, hn48⟩ : ∃ n : Nat, nodeP ⟨2, 2, 4, 0, 2⟩ q3 q 1 = (n : Int) ∧ n < 48 := ⟨ndA q3 q 1, ndA_eq hq4 hq2 (p := 1) (by decide), ndA_lt hq4 hq2 (by decide)⟩
            have HN := Lib.hid hn
            have n0 : (0 : Int) ≤ (n : Int) := by omega
            have n1 : (n : Int) < 48 := by omega
            clear hn e0 e1
            go_wp2_with (go_at_call 26; refine (rnode_lit 2 2 4 0 2 q3 q 1 n HN.out _).mono ?_; rintro e w5 ⟨rfl, hk5⟩; have hz5 := HZ'.out.no hk5; have c5 := hz5.cell hn48; have f5 := hz5.free n; have P5 := Lib.hid (HP.out n w5 hn48 (HB.out.no hk5) hz5); clear hz5)
            go_roundw
            case rel => exact ⟨k + 1, _, by omega, by go_num, P5.out.1, P5.out.2⟩
            case measure => simp [intOf]; omega
      · obtain rfl : k = L.length := by omega
        clear z0 z1 z2 z3 z4 HW
        have hzl := HZ'.out.ln
        have HZL := Lib.hid hzl
        clear hzl
        go_upto_region 21 with (first
          | (go_at_call 27; refine (new_someN Lb 0 48 48 zs wr HZL.out (by decide) (by decide) (fun k hk => by rw [Nat.zero_add]; exact HZ'.out.cell hk)).mono ?_; rintro e w4 ⟨a, v, rfl, hm, ha, hv, hkm⟩; have M4 := Lib.hid (And.intro hm (And.intro ha (And.intro hv hkm))); clear hm ha hv hkm)
          | (go_at_call 28; refine (rnew_someN Lb 0 48 48 zs w4 HZL.out (by decide) (by decide) (fun k hk => by rw [Nat.zero_add]; exact (HZ'.out.no M4.out.2.2.2).cell hk)).mono ?_; rintro e w5 ⟨c, u, rfl, hm, ha, hv, hkm⟩; have M5 := Lib.hid (And.intro hm (And.intro ha (And.intro hv hkm))); clear hm ha hv hkm))
        obtain ⟨M, hM⟩ : ∃ M, MemS.new zs = M := ⟨_, rfl⟩
        have hl48 : M.L.length = 48 := by rw [← hM]; exact HZL.out
        rw [hM] at M4 M5
        have hbg := (HB.out.no M4.out.2.2.2).no M5.out.2.2.2
        have hmi := fresh_in HB.out.kp M4.out.1 M4.out.2.1 M4.out.2.2.1 M4.out.2.2.2
        have htw := TwoT.make hmi M5.out.1 M5.out.2.1 M5.out.2.2.1 M5.out.2.2.2
        have hS : Sc w w5 a c v u M M [(F, 49, #[.int .i64 2, .int .i64 2, .int .i64 4, .int .i64 0, .int .i64 2]), (B, 25, #[.int .i64 2, .int .i64 2, .int .i64 4, .int .i64 0, .int .i64 2]), (H, 32, #[.int .i64 t1, .int .i64 l1, .int .i64 s1, .bool rd, .int .i64 x1])] := ⟨htw, hbg, fun x hx => by
          have hlt := HB.out.lt hx
          exact ⟨not_own (fun e => by have := M4.out.2.1; omega) (fun e => by have := M4.out.2.2.1 _ e; omega), not_own (fun e => by have := M5.out.2.1; have := M4.out.2.2.2.size; omega) (fun e => by have := M5.out.2.2.1 _ e; have := M4.out.2.2.2.size; omega)⟩⟩
        have HS := Lib.hid hS; have HL := Lib.hid hl48
        clear hS hl48 hM hbg hmi htw M4 M5 HZ' HZL HB HOF
        have hS := HS.out.no ((Keeps.refl NoS _).drew)
        clear HS
        refine wp_region_held_drew (S := (fun w' => (w'.cell? ⟨F, 0, none⟩ = some (.int .i64 2) ∧ w'.cell? ⟨F, 1, none⟩ = some (.int .i64 2) ∧ w'.cell? ⟨F, 2, none⟩ = some (.int .i64 4) ∧ w'.cell? ⟨F, 3, none⟩ = some (.int .i64 0) ∧ w'.cell? ⟨F, 4, none⟩ = some (.int .i64 2)) ∧ (w'.cell? ⟨B, 0, none⟩ = some (.int .i64 2) ∧ w'.cell? ⟨B, 1, none⟩ = some (.int .i64 2) ∧ w'.cell? ⟨B, 2, none⟩ = some (.int .i64 4) ∧ w'.cell? ⟨B, 3, none⟩ = some (.int .i64 0) ∧ w'.cell? ⟨B, 4, none⟩ = some (.int .i64 2)) ∧ (w'.cell? ⟨H, 0, none⟩ = some (.int .i64 t1) ∧ w'.cell? ⟨H, 1, none⟩ = some (.int .i64 l1) ∧ w'.cell? ⟨H, 2, none⟩ = some (.int .i64 s1) ∧ w'.cell? ⟨H, 3, none⟩ = some (.bool rd) ∧ w'.cell? ⟨H, 4, none⟩ = some (.int .i64 x1)))) (by kernel_rfl) (ak_keep3 hS) (fun hHeld => ?_)
        generalize w5.drew = wq at *
        apply wpAnyH_dag2 (R := (fun (g1 : Nat) (g2 : Nat) (wq : World) => (Sc w wq a c v u M M [(F, 49, #[.int .i64 2, .int .i64 2, .int .i64 4, .int .i64 0, .int .i64 2]), (B, 25, #[.int .i64 2, .int .i64 2, .int .i64 4, .int .i64 0, .int .i64 2]), (H, 32, #[.int .i64 t1, .int .i64 l1, .int .i64 s1, .bool rd, .int .i64 x1])]) ∧ (Blk wq g1 32 #[.int .i64 t1, .int .i64 l1, .int .i64 s1, .bool rd, .int .i64 x1]) ∧ (Blk wq g2 32 #[.int .i64 t1, .int .i64 l1, .int .i64 s1, .bool rd, .int .i64 x1]) ∧ (OffO w [(F, 49, #[.int .i64 2, .int .i64 2, .int .i64 4, .int .i64 0, .int .i64 2]), (B, 25, #[.int .i64 2, .int .i64 2, .int .i64 4, .int .i64 0, .int .i64 2]), (H, 32, #[.int .i64 t1, .int .i64 l1, .int .i64 s1, .bool rd, .int .i64 x1])] a c v u g1) ∧ (OffO w [(F, 49, #[.int .i64 2, .int .i64 2, .int .i64 4, .int .i64 0, .int .i64 2]), (B, 25, #[.int .i64 2, .int .i64 2, .int .i64 4, .int .i64 0, .int .i64 2]), (H, 32, #[.int .i64 t1, .int .i64 l1, .int .i64 s1, .bool rd, .int .i64 x1])] a c v u g2) ∧ (g1 ≠ g2)))
        · intro hD0
          apply wpAnyH_dag2 (R := (fun (g1 : Nat) (g2 : Nat) (wq : World) => (Sc w wq a c v u M M [(F, 49, #[.int .i64 2, .int .i64 2, .int .i64 4, .int .i64 0, .int .i64 2]), (B, 25, #[.int .i64 2, .int .i64 2, .int .i64 4, .int .i64 0, .int .i64 2]), (H, 32, #[.int .i64 t1, .int .i64 l1, .int .i64 s1, .bool rd, .int .i64 x1])]) ∧ (Blk wq g1 32 #[.int .i64 t1, .int .i64 l1, .int .i64 s1, .bool rd, .int .i64 x1]) ∧ (Blk wq g2 32 #[.int .i64 0, .int .i64 0, .int .i64 0, .bool false, .int .i64 0]) ∧ (OffO w [(F, 49, #[.int .i64 2, .int .i64 2, .int .i64 4, .int .i64 0, .int .i64 2]), (B, 25, #[.int .i64 2, .int .i64 2, .int .i64 4, .int .i64 0, .int .i64 2]), (H, 32, #[.int .i64 t1, .int .i64 l1, .int .i64 s1, .bool rd, .int .i64 x1])] a c v u g1) ∧ (OffO w [(F, 49, #[.int .i64 2, .int .i64 2, .int .i64 4, .int .i64 0, .int .i64 2]), (B, 25, #[.int .i64 2, .int .i64 2, .int .i64 4, .int .i64 0, .int .i64 2]), (H, 32, #[.int .i64 t1, .int .i64 l1, .int .i64 s1, .bool rd, .int .i64 x1])] a c v u g2) ∧ (g1 ≠ g2)))
          · intro hD1
            apply wpAnyH_dag2 (R := (fun (g1 : Nat) (g2 : Nat) (wq : World) => (Sc w wq a c v u M M [(F, 49, #[.int .i64 2, .int .i64 2, .int .i64 4, .int .i64 0, .int .i64 2]), (B, 25, #[.int .i64 2, .int .i64 2, .int .i64 4, .int .i64 0, .int .i64 2]), (H, 32, #[.int .i64 t1, .int .i64 l1, .int .i64 s1, .bool rd, .int .i64 x1])]) ∧ (Blk wq g1 32 #[.int .i64 0, .int .i64 0, .int .i64 0, .bool false, .int .i64 0]) ∧ (Blk wq g2 32 #[.int .i64 0, .int .i64 0, .int .i64 0, .bool false, .int .i64 0]) ∧ (OffO w [(F, 49, #[.int .i64 2, .int .i64 2, .int .i64 4, .int .i64 0, .int .i64 2]), (B, 25, #[.int .i64 2, .int .i64 2, .int .i64 4, .int .i64 0, .int .i64 2]), (H, 32, #[.int .i64 t1, .int .i64 l1, .int .i64 s1, .bool rd, .int .i64 x1])] a c v u g1) ∧ (OffO w [(F, 49, #[.int .i64 2, .int .i64 2, .int .i64 4, .int .i64 0, .int .i64 2]), (B, 25, #[.int .i64 2, .int .i64 2, .int .i64 4, .int .i64 0, .int .i64 2]), (H, 32, #[.int .i64 t1, .int .i64 l1, .int .i64 s1, .bool rd, .int .i64 x1])] a c v u g2) ∧ (g1 ≠ g2)))
            · intro hD2
              apply wpAnyH_dag1 (R := (fun (g1 : Nat) (wq : World) => (Sc w wq a c v u M M [(F, 49, #[.int .i64 2, .int .i64 2, .int .i64 4, .int .i64 0, .int .i64 2]), (B, 25, #[.int .i64 2, .int .i64 2, .int .i64 4, .int .i64 0, .int .i64 2]), (H, 32, #[.int .i64 t1, .int .i64 l1, .int .i64 s1, .bool rd, .int .i64 x1])]) ∧ (Blk wq g1 32 #[.int .i64 0, .int .i64 0, .int .i64 0, .bool false, .int .i64 0]) ∧ (OffO w [(F, 49, #[.int .i64 2, .int .i64 2, .int .i64 4, .int .i64 0, .int .i64 2]), (B, 25, #[.int .i64 2, .int .i64 2, .int .i64 4, .int .i64 0, .int .i64 2]), (H, 32, #[.int .i64 t1, .int .i64 l1, .int .i64 s1, .bool rd, .int .i64 x1])] a c v u g1)))
              · intro hD3
                apply wpAnyH_dag1 (R := (fun (g2 : Nat) (wq : World) => (Sc w wq a c v u M M [(F, 49, #[.int .i64 2, .int .i64 2, .int .i64 4, .int .i64 0, .int .i64 2]), (B, 25, #[.int .i64 2, .int .i64 2, .int .i64 4, .int .i64 0, .int .i64 2]), (H, 32, #[.int .i64 t1, .int .i64 l1, .int .i64 s1, .bool rd, .int .i64 x1])]) ∧ (Blk wq g2 32 #[.int .i64 0, .int .i64 0, .int .i64 0, .bool false, .int .i64 0]) ∧ (OffO w [(F, 49, #[.int .i64 2, .int .i64 2, .int .i64 4, .int .i64 0, .int .i64 2]), (B, 25, #[.int .i64 2, .int .i64 2, .int .i64 4, .int .i64 0, .int .i64 2]), (H, 32, #[.int .i64 t1, .int .i64 l1, .int .i64 s1, .bool rd, .int .i64 x1])] a c v u g2)))
                · intro hD4
                  refine wpAnyH_take (i := 0) (v := ?_) (by simp only [List.getElem?_toArray, List.getElem?_cons_succ, List.getElem?_cons_zero]; rfl) (by kernel_rfl) (by kernel_rfl) (by kernel_rfl) (by exact fun _ _ _ h => h) (Or.inl ⟨by rfl, ?_⟩) hHeld ?_
                  rotate_left
                  · intro w hSw; (try dsimp only at hSw); go_simp; (try with_reducible rfl)
                  try simp only [Act.put, List.setIfInBounds_toArray, List.set_cons_zero, List.set_cons_succ]
                  refine wpAnyH_take (i := 1) (v := ?_) (by simp only [List.getElem?_toArray, List.getElem?_cons_succ, List.getElem?_cons_zero]; rfl) (by kernel_rfl) (by kernel_rfl) (by kernel_rfl) (by exact fun _ _ _ h => h) (Or.inl ⟨by rfl, ?_⟩) hHeld ?_
                  rotate_left
                  · intro w hSw; (try dsimp only at hSw); go_simp; (try with_reducible rfl)
                  try simp only [Act.put, List.setIfInBounds_toArray, List.set_cons_zero, List.set_cons_succ]
                  refine wpAnyH_ready (rs := [2, 3]) (by kernel_rfl) (by simp) ?_
                  refine AllReadyH.cons (by simp only [List.getElem?_toArray, List.getElem?_cons_succ, List.getElem?_cons_zero]; rfl) (fun kC hkC => ?_) (AllReadyH.cons (by simp only [List.getElem?_toArray, List.getElem?_cons_succ, List.getElem?_cons_zero]; rfl) (fun kC hkC => ?_) AllReadyH.nil)
                  -- operation 2 of state 5
                  · go_simp
                    have o1 := hS.fresh; (try have ne12 : wq.heap.size ≠ g2 := fun e => by (have := p2.lt; omega)); have p1 := Blk.new wq #[.int .i64 0, .int .i64 0, .int .i64 0, .bool false, .int .i64 0] 32; have hS := hS.no ((Keeps.refl NoS wq).alloc (.cells #[.int .i64 0, .int .i64 0, .int .i64 0, .bool false, .int .i64 0] 32)); (try have p2 := p2.no ((Keeps.refl NoS wq).alloc (.cells #[.int .i64 0, .int .i64 0, .int .i64 0, .bool false, .int .i64 0] 32))); obtain ⟨g1, hg1⟩ : ∃ g, wq.heap.size = g := ⟨_, rfl⟩; (try rw [hg1] at ne12); rw [hg1] at o1 p1 ⊢; clear hg1; generalize wq.alloc (.cells #[.int .i64 0, .int .i64 0, .int .i64 0, .bool false, .int .i64 0] 32) = wq at *
                    refine hkC.out _ _ ?_ (fun hHeld => ?_)
                    · exact (ak_keep3 hS)
                    clear hkC kC
                    try simp only [Act.put, List.setIfInBounds_toArray, List.set_cons_zero, List.set_cons_succ]
                    exact hD3 g1 _ ⟨hS, p1, o1⟩
                  -- operation 3 of state 5
                  · go_simp
                    have o2 := hS.fresh; (try have ne12 : g1 ≠ wq.heap.size := fun e => by (have := p1.lt; omega)); have p2 := Blk.new wq #[.int .i64 0, .int .i64 0, .int .i64 0, .bool false, .int .i64 0] 32; have hS := hS.no ((Keeps.refl NoS wq).alloc (.cells #[.int .i64 0, .int .i64 0, .int .i64 0, .bool false, .int .i64 0] 32)); (try have p1 := p1.no ((Keeps.refl NoS wq).alloc (.cells #[.int .i64 0, .int .i64 0, .int .i64 0, .bool false, .int .i64 0] 32))); obtain ⟨g2, hg2⟩ : ∃ g, wq.heap.size = g := ⟨_, rfl⟩; (try rw [hg2] at ne12); rw [hg2] at o2 p2 ⊢; clear hg2; generalize wq.alloc (.cells #[.int .i64 0, .int .i64 0, .int .i64 0, .bool false, .int .i64 0] 32) = wq at *
                    refine hkC.out _ _ ?_ (fun hHeld => ?_)
                    · exact (ak_keep3 hS)
                    clear hkC kC
                    try simp only [Act.put, List.setIfInBounds_toArray, List.set_cons_zero, List.set_cons_succ]
                    exact hD4 g2 _ ⟨hS, p2, o2⟩
                · intro g2 wq hR
                  obtain ⟨hS, p2, o2⟩ := hR
                  have hHeld : (fun w' => (w'.cell? ⟨F, 0, none⟩ = some (.int .i64 2) ∧ w'.cell? ⟨F, 1, none⟩ = some (.int .i64 2) ∧ w'.cell? ⟨F, 2, none⟩ = some (.int .i64 4) ∧ w'.cell? ⟨F, 3, none⟩ = some (.int .i64 0) ∧ w'.cell? ⟨F, 4, none⟩ = some (.int .i64 2)) ∧ (w'.cell? ⟨B, 0, none⟩ = some (.int .i64 2) ∧ w'.cell? ⟨B, 1, none⟩ = some (.int .i64 2) ∧ w'.cell? ⟨B, 2, none⟩ = some (.int .i64 4) ∧ w'.cell? ⟨B, 3, none⟩ = some (.int .i64 0) ∧ w'.cell? ⟨B, 4, none⟩ = some (.int .i64 2)) ∧ (w'.cell? ⟨H, 0, none⟩ = some (.int .i64 t1) ∧ w'.cell? ⟨H, 1, none⟩ = some (.int .i64 l1) ∧ w'.cell? ⟨H, 2, none⟩ = some (.int .i64 s1) ∧ w'.cell? ⟨H, 3, none⟩ = some (.bool rd) ∧ w'.cell? ⟨H, 4, none⟩ = some (.int .i64 x1))) wq := ak_keep3 hS
                  refine wpAnyH_ready (rs := [2]) (by kernel_rfl) (by simp) ?_
                  refine AllReadyH.cons (by simp only [List.getElem?_toArray, List.getElem?_cons_succ, List.getElem?_cons_zero]; rfl) (fun kC hkC => ?_) AllReadyH.nil
                  -- operation 2 of state 4
                  · go_simp
                    have o1 := hS.fresh; (try have ne12 : wq.heap.size ≠ g2 := fun e => by (have := p2.lt; omega)); have p1 := Blk.new wq #[.int .i64 0, .int .i64 0, .int .i64 0, .bool false, .int .i64 0] 32; have hS := hS.no ((Keeps.refl NoS wq).alloc (.cells #[.int .i64 0, .int .i64 0, .int .i64 0, .bool false, .int .i64 0] 32)); (try have p2 := p2.no ((Keeps.refl NoS wq).alloc (.cells #[.int .i64 0, .int .i64 0, .int .i64 0, .bool false, .int .i64 0] 32))); obtain ⟨g1, hg1⟩ : ∃ g, wq.heap.size = g := ⟨_, rfl⟩; (try rw [hg1] at ne12); rw [hg1] at o1 p1 ⊢; clear hg1; generalize wq.alloc (.cells #[.int .i64 0, .int .i64 0, .int .i64 0, .bool false, .int .i64 0] 32) = wq at *
                    refine hkC.out _ _ ?_ (fun hHeld => ?_)
                    · exact (ak_keep3 hS)
                    clear hkC kC
                    try simp only [Act.put, List.setIfInBounds_toArray, List.set_cons_zero, List.set_cons_succ]
                    exact hD2 g1 g2 _ ⟨hS, p1, p2, o1, o2, ne12⟩
              · intro g1 wq hR
                obtain ⟨hS, p1, o1⟩ := hR
                have hHeld : (fun w' => (w'.cell? ⟨F, 0, none⟩ = some (.int .i64 2) ∧ w'.cell? ⟨F, 1, none⟩ = some (.int .i64 2) ∧ w'.cell? ⟨F, 2, none⟩ = some (.int .i64 4) ∧ w'.cell? ⟨F, 3, none⟩ = some (.int .i64 0) ∧ w'.cell? ⟨F, 4, none⟩ = some (.int .i64 2)) ∧ (w'.cell? ⟨B, 0, none⟩ = some (.int .i64 2) ∧ w'.cell? ⟨B, 1, none⟩ = some (.int .i64 2) ∧ w'.cell? ⟨B, 2, none⟩ = some (.int .i64 4) ∧ w'.cell? ⟨B, 3, none⟩ = some (.int .i64 0) ∧ w'.cell? ⟨B, 4, none⟩ = some (.int .i64 2)) ∧ (w'.cell? ⟨H, 0, none⟩ = some (.int .i64 t1) ∧ w'.cell? ⟨H, 1, none⟩ = some (.int .i64 l1) ∧ w'.cell? ⟨H, 2, none⟩ = some (.int .i64 s1) ∧ w'.cell? ⟨H, 3, none⟩ = some (.bool rd) ∧ w'.cell? ⟨H, 4, none⟩ = some (.int .i64 x1))) wq := ak_keep3 hS
                refine wpAnyH_ready (rs := [3]) (by kernel_rfl) (by simp) ?_
                refine AllReadyH.cons (by simp only [List.getElem?_toArray, List.getElem?_cons_succ, List.getElem?_cons_zero]; rfl) (fun kC hkC => ?_) AllReadyH.nil
                -- operation 3 of state 3
                · go_simp
                  have o2 := hS.fresh; (try have ne12 : g1 ≠ wq.heap.size := fun e => by (have := p1.lt; omega)); have p2 := Blk.new wq #[.int .i64 0, .int .i64 0, .int .i64 0, .bool false, .int .i64 0] 32; have hS := hS.no ((Keeps.refl NoS wq).alloc (.cells #[.int .i64 0, .int .i64 0, .int .i64 0, .bool false, .int .i64 0] 32)); (try have p1 := p1.no ((Keeps.refl NoS wq).alloc (.cells #[.int .i64 0, .int .i64 0, .int .i64 0, .bool false, .int .i64 0] 32))); obtain ⟨g2, hg2⟩ : ∃ g, wq.heap.size = g := ⟨_, rfl⟩; (try rw [hg2] at ne12); rw [hg2] at o2 p2 ⊢; clear hg2; generalize wq.alloc (.cells #[.int .i64 0, .int .i64 0, .int .i64 0, .bool false, .int .i64 0] 32) = wq at *
                  refine hkC.out _ _ ?_ (fun hHeld => ?_)
                  · exact (ak_keep3 hS)
                  clear hkC kC
                  try simp only [Act.put, List.setIfInBounds_toArray, List.set_cons_zero, List.set_cons_succ]
                  exact hD2 g1 g2 _ ⟨hS, p1, p2, o1, o2, ne12⟩
            · intro g1 g2 wq hR
              obtain ⟨hS, p1, p2, o1, o2, ne12⟩ := hR
              have hHeld : (fun w' => (w'.cell? ⟨F, 0, none⟩ = some (.int .i64 2) ∧ w'.cell? ⟨F, 1, none⟩ = some (.int .i64 2) ∧ w'.cell? ⟨F, 2, none⟩ = some (.int .i64 4) ∧ w'.cell? ⟨F, 3, none⟩ = some (.int .i64 0) ∧ w'.cell? ⟨F, 4, none⟩ = some (.int .i64 2)) ∧ (w'.cell? ⟨B, 0, none⟩ = some (.int .i64 2) ∧ w'.cell? ⟨B, 1, none⟩ = some (.int .i64 2) ∧ w'.cell? ⟨B, 2, none⟩ = some (.int .i64 4) ∧ w'.cell? ⟨B, 3, none⟩ = some (.int .i64 0) ∧ w'.cell? ⟨B, 4, none⟩ = some (.int .i64 2)) ∧ (w'.cell? ⟨H, 0, none⟩ = some (.int .i64 t1) ∧ w'.cell? ⟨H, 1, none⟩ = some (.int .i64 l1) ∧ w'.cell? ⟨H, 2, none⟩ = some (.int .i64 s1) ∧ w'.cell? ⟨H, 3, none⟩ = some (.bool rd) ∧ w'.cell? ⟨H, 4, none⟩ = some (.int .i64 x1))) wq := ak_keep3 hS
              refine wpAnyH_ready (rs := [4]) (by kernel_rfl) (by simp) ?_
              refine AllReadyH.cons (by simp only [List.getElem?_toArray, List.getElem?_cons_succ, List.getElem?_cons_zero]; rfl) (fun kC hkC => ?_) AllReadyH.nil
              -- operation 4 of state 2
              · obtain ⟨y0, y1, y2, y3, y4⟩ := p1.cells5; have yf0 := p1.free 0; have yf1 := p1.free 1; have yf2 := p1.free 2; have yf3 := p1.free 3; have yf4 := p1.free 4; go_simp; have kk := kput5 (wr := wq) g1 (.int .i64 t1) (.int .i64 l1) (.int .i64 s1) (.bool rd) (.int .i64 x1); have hS := hS.far o1 kk; have p2 := p2.far kk ne12.symm; have p1 := p1.put5 (.int .i64 t1) (.int .i64 l1) (.int .i64 s1) (.bool rd) (.int .i64 x1); generalize (((((wq.setCell ⟨g1, 0, none⟩ (.int .i64 t1)).setCell ⟨g1, 1, none⟩ (.int .i64 l1)).setCell ⟨g1, 2, none⟩ (.int .i64 s1)).setCell ⟨g1, 3, none⟩ (.bool rd)).setCell ⟨g1, 4, none⟩ (.int .i64 x1)) = wq at *; clear y0 y1 y2 y3 y4 yf0 yf1 yf2 yf3 yf4 kk
                refine hkC.out _ _ ?_ (fun hHeld => ?_)
                · exact (ak_keep3 hS)
                clear hkC kC
                try simp only [Act.put, List.setIfInBounds_toArray, List.set_cons_zero, List.set_cons_succ]
                exact hD1 g1 g2 _ ⟨hS, p1, p2, o1, o2, ne12⟩
          · intro g1 g2 wq hR
            obtain ⟨hS, p1, p2, o1, o2, ne12⟩ := hR
            have hHeld : (fun w' => (w'.cell? ⟨F, 0, none⟩ = some (.int .i64 2) ∧ w'.cell? ⟨F, 1, none⟩ = some (.int .i64 2) ∧ w'.cell? ⟨F, 2, none⟩ = some (.int .i64 4) ∧ w'.cell? ⟨F, 3, none⟩ = some (.int .i64 0) ∧ w'.cell? ⟨F, 4, none⟩ = some (.int .i64 2)) ∧ (w'.cell? ⟨B, 0, none⟩ = some (.int .i64 2) ∧ w'.cell? ⟨B, 1, none⟩ = some (.int .i64 2) ∧ w'.cell? ⟨B, 2, none⟩ = some (.int .i64 4) ∧ w'.cell? ⟨B, 3, none⟩ = some (.int .i64 0) ∧ w'.cell? ⟨B, 4, none⟩ = some (.int .i64 2)) ∧ (w'.cell? ⟨H, 0, none⟩ = some (.int .i64 t1) ∧ w'.cell? ⟨H, 1, none⟩ = some (.int .i64 l1) ∧ w'.cell? ⟨H, 2, none⟩ = some (.int .i64 s1) ∧ w'.cell? ⟨H, 3, none⟩ = some (.bool rd) ∧ w'.cell? ⟨H, 4, none⟩ = some (.int .i64 x1))) wq := ak_keep3 hS
            refine wpAnyH_ready (rs := [5]) (by kernel_rfl) (by simp) ?_
            refine AllReadyH.cons (by simp only [List.getElem?_toArray, List.getElem?_cons_succ, List.getElem?_cons_zero]; rfl) (fun kC hkC => ?_) AllReadyH.nil
            -- operation 5 of state 1
            · obtain ⟨y0, y1, y2, y3, y4⟩ := p2.cells5; have yf0 := p2.free 0; have yf1 := p2.free 1; have yf2 := p2.free 2; have yf3 := p2.free 3; have yf4 := p2.free 4; go_simp; have kk := kput5 (wr := wq) g2 (.int .i64 t1) (.int .i64 l1) (.int .i64 s1) (.bool rd) (.int .i64 x1); have hS := hS.far o2 kk; have p1 := p1.far kk ne12; have p2 := p2.put5 (.int .i64 t1) (.int .i64 l1) (.int .i64 s1) (.bool rd) (.int .i64 x1); generalize (((((wq.setCell ⟨g2, 0, none⟩ (.int .i64 t1)).setCell ⟨g2, 1, none⟩ (.int .i64 l1)).setCell ⟨g2, 2, none⟩ (.int .i64 s1)).setCell ⟨g2, 3, none⟩ (.bool rd)).setCell ⟨g2, 4, none⟩ (.int .i64 x1)) = wq at *; clear y0 y1 y2 y3 y4 yf0 yf1 yf2 yf3 yf4 kk
              refine hkC.out _ _ ?_ (fun hHeld => ?_)
              · exact (ak_keep3 hS)
              clear hkC kC
              try simp only [Act.put, List.setIfInBounds_toArray, List.set_cons_zero, List.set_cons_succ]
              exact hD0 g1 g2 _ ⟨hS, p1, p2, o1, o2, ne12⟩
        intro g1 g2 wq hR
        obtain ⟨hS, p1, p2, o1, o2, ne12⟩ := hR
        refine wpAnyH_done (by kernel_rfl) ?_ _
        have HS := Lib.hid hS; have HO1 := Lib.hid o1; have HO2 := Lib.hid o2; have HP1 := Lib.hid p1; have HP2 := Lib.hid p2
        clear hS o1 o2 p1 p2 hHeld
        go_upto_if 86 with fail
        go_cut [] (fun wx => ∃ (M2 : MemS) (t2 l2 s2 : Int) (r2 : Bool) (x2 : Int), M2.L.length = 48 ∧ Sc w wx a c v u M2 M2 ((g2, 32, #[.int .i64 t2, .int .i64 l2, .int .i64 s2, .bool r2, .int .i64 x2]) :: (g1, 32, #[.int .i64 t2, .int .i64 l2, .int .i64 s2, .bool r2, .int .i64 x2]) :: [(F, 49, #[.int .i64 2, .int .i64 2, .int .i64 4, .int .i64 0, .int .i64 2]), (B, 25, #[.int .i64 2, .int .i64 2, .int .i64 4, .int .i64 0, .int .i64 2]), (H, 32, #[.int .i64 t1, .int .i64 l1, .int .i64 s1, .bool rd, .int .i64 x1])]))
        case first =>
          cases drop
          · obtain ⟨M2, h2, hd⟩ : ∃ M2 h2, mTakeI M ⟨t1, l1, s1, rd, x1⟩ = (M2, h2) := ⟨_, _, rfl⟩
            have hl2 : M2.L.length = 48 := by have h := mTakeI_len M ⟨t1, l1, s1, rd, x1⟩; rw [hd] at h; exact h.trans HL.out
            obtain ⟨t2, l2, s2, r2, x2⟩ := h2
            have HD := Lib.hid hd; have HL2 := Lib.hid hl2
            have hk := (Keeps.refl NoS wq).drew
            have hS := HS.out.no hk; have p1 := HP1.out.no hk; have p2 := HP2.out.no hk; have o1 := HO1.out; have o2 := HO2.out
            clear hd hl2 HS HP1 HP2 HO1 HO2 hk
            go_wp2_with fail
            refine wp_region_held_drew (S := (fun w' => (w'.cell? ⟨F, 0, none⟩ = some (.int .i64 2) ∧ w'.cell? ⟨F, 1, none⟩ = some (.int .i64 2) ∧ w'.cell? ⟨F, 2, none⟩ = some (.int .i64 4) ∧ w'.cell? ⟨F, 3, none⟩ = some (.int .i64 0) ∧ w'.cell? ⟨F, 4, none⟩ = some (.int .i64 2)) ∧ (w'.cell? ⟨B, 0, none⟩ = some (.int .i64 2) ∧ w'.cell? ⟨B, 1, none⟩ = some (.int .i64 2) ∧ w'.cell? ⟨B, 2, none⟩ = some (.int .i64 4) ∧ w'.cell? ⟨B, 3, none⟩ = some (.int .i64 0) ∧ w'.cell? ⟨B, 4, none⟩ = some (.int .i64 2)) ∧ (w'.cell? ⟨H, 0, none⟩ = some (.int .i64 t1) ∧ w'.cell? ⟨H, 1, none⟩ = some (.int .i64 l1) ∧ w'.cell? ⟨H, 2, none⟩ = some (.int .i64 s1) ∧ w'.cell? ⟨H, 3, none⟩ = some (.bool rd) ∧ w'.cell? ⟨H, 4, none⟩ = some (.int .i64 x1)))) (by kernel_rfl) (ak_keep3 hS) (fun hHeld => ?_)
            refine wpAnyH_take (i := 0) (v := ?_) (by simp only [List.getElem?_toArray, List.getElem?_cons_succ, List.getElem?_cons_zero]; rfl) (by kernel_rfl) (by kernel_rfl) (by kernel_rfl) (by exact fun _ _ _ h => h) (Or.inl ⟨by rfl, ?_⟩) hHeld ?_
            rotate_left
            · intro w hSw; (try dsimp only at hSw); go_simp; (try with_reducible rfl)
            try simp only [Act.put, List.setIfInBounds_toArray, List.set_cons_zero, List.set_cons_succ]
            refine wpAnyH_take (i := 1) (v := ?_) (by simp only [List.getElem?_toArray, List.getElem?_cons_succ, List.getElem?_cons_zero]; rfl) (by kernel_rfl) (by kernel_rfl) (by kernel_rfl) (by exact fun _ _ _ h => h) (Or.inl ⟨by rfl, ?_⟩) hHeld ?_
            rotate_left
            · intro w hSw; (try dsimp only at hSw); go_simp; (try with_reducible rfl)
            try simp only [Act.put, List.setIfInBounds_toArray, List.set_cons_zero, List.set_cons_succ]
            refine wpAnyH_take (i := 2) (v := ?_) (by simp only [List.getElem?_toArray, List.getElem?_cons_succ, List.getElem?_cons_zero]; rfl) (by kernel_rfl) (by kernel_rfl) (by kernel_rfl) (by exact fun _ _ _ h => h) (Or.inl ⟨by rfl, ?_⟩) hHeld ?_
            rotate_left
            · intro w hSw; (try dsimp only at hSw); go_simp; (try with_reducible rfl)
            try simp only [Act.put, List.setIfInBounds_toArray, List.set_cons_zero, List.set_cons_succ]
            refine wpAnyH_take (i := 4) (v := ?_) (by simp only [List.getElem?_toArray, List.getElem?_cons_succ, List.getElem?_cons_zero]; rfl) (by kernel_rfl) (by kernel_rfl) (by kernel_rfl) (by exact fun _ _ _ h => h) (Or.inl ⟨by rfl, ?_⟩) hHeld ?_
            rotate_left
            · intro w hSw; (try dsimp only at hSw); go_simp; (try with_reducible rfl)
            try simp only [Act.put, List.setIfInBounds_toArray, List.set_cons_zero, List.set_cons_succ]
            refine wpAnyH_take (i := 5) (v := ?_) (by simp only [List.getElem?_toArray, List.getElem?_cons_succ, List.getElem?_cons_zero]; rfl) (by kernel_rfl) (by kernel_rfl) (by kernel_rfl) (by exact fun _ _ _ h => h) (Or.inl ⟨by rfl, ?_⟩) hHeld ?_
            rotate_left
            · intro w hSw; (try dsimp only at hSw); go_simp; (try with_reducible rfl)
            try simp only [Act.put, List.setIfInBounds_toArray, List.set_cons_zero, List.set_cons_succ]
            refine wpAnyH_take (i := 6) (v := ?_) (by simp only [List.getElem?_toArray, List.getElem?_cons_succ, List.getElem?_cons_zero]; rfl) (by kernel_rfl) (by kernel_rfl) (by kernel_rfl) (by exact fun _ _ _ h => h) (Or.inl ⟨by rfl, ?_⟩) hHeld ?_
            rotate_left
            · intro w hSw; (try dsimp only at hSw); go_simp; (try with_reducible rfl)
            try simp only [Act.put, List.setIfInBounds_toArray, List.set_cons_zero, List.set_cons_succ]
            refine wpAnyH_ready (rs := [3]) (by kernel_rfl) (by simp) ?_
            refine AllReadyH.cons (by simp only [List.getElem?_toArray, List.getElem?_cons_succ, List.getElem?_cons_zero]; rfl) (fun kC hkC => ?_) AllReadyH.nil
            go_simp
            refine (take8_any t1 l1 s1 rd x1 a v M _ hS.tw.s.m HL.out).mono ?_; rw [HD.out]; unfold handV; dsimp only; rintro e3 wq ⟨rfl, hm, hkk⟩; have hS := hS.turnS hm hkk; have p1 := p1.keep hkk o1.2.1; have p2 := p2.keep hkk o2.2.1; clear hm hkk
            (try go_wp2_with fail)
            refine hkC.out _ _ (ak_keep3 hS) (fun hHeld => ?_)
            clear hkC kC
            try simp only [Act.put, List.setIfInBounds_toArray, List.set_cons_zero, List.set_cons_succ]
            refine wpAnyH_ready (rs := [7]) (by kernel_rfl) (by simp) ?_
            refine AllReadyH.cons (by simp only [List.getElem?_toArray, List.getElem?_cons_succ, List.getElem?_cons_zero]; rfl) (fun kC hkC => ?_) AllReadyH.nil
            go_simp
            refine (rtake8_any t1 l1 s1 rd x1 c u M _ hS.tw.r.m HL.out).mono ?_; rw [HD.out]; unfold handV; dsimp only; rintro e3 wq ⟨rfl, hm, hkk⟩; have hS := hS.turnR hm hkk; have p1 := p1.keep hkk o1.2.2; have p2 := p2.keep hkk o2.2.2; clear hm hkk
            (try go_wp2_with fail)
            refine hkC.out _ _ (ak_keep3 hS) (fun hHeld => ?_)
            clear hkC kC
            try simp only [Act.put, List.setIfInBounds_toArray, List.set_cons_zero, List.set_cons_succ]
            refine wpAnyH_ready (rs := [8]) (by kernel_rfl) (by simp) ?_
            refine AllReadyH.cons (by simp only [List.getElem?_toArray, List.getElem?_cons_succ, List.getElem?_cons_zero]; rfl) (fun kC hkC => ?_) AllReadyH.nil
            obtain ⟨y0, y1, y2, y3, y4⟩ := p1.cells5; have yf0 := p1.free 0; have yf1 := p1.free 1; have yf2 := p1.free 2; have yf3 := p1.free 3; have yf4 := p1.free 4; go_simp; have kk := kput5 (wr := wq) g1 (.int .i64 t2) (.int .i64 l2) (.int .i64 s2) (.bool r2) (.int .i64 x2); have hS := hS.far o1 kk; have p2 := p2.far kk ne12.symm; have p1 := p1.put5 (.int .i64 t2) (.int .i64 l2) (.int .i64 s2) (.bool r2) (.int .i64 x2); generalize (((((wq.setCell ⟨g1, 0, none⟩ (.int .i64 t2)).setCell ⟨g1, 1, none⟩ (.int .i64 l2)).setCell ⟨g1, 2, none⟩ (.int .i64 s2)).setCell ⟨g1, 3, none⟩ (.bool r2)).setCell ⟨g1, 4, none⟩ (.int .i64 x2)) = wq at *; clear y0 y1 y2 y3 y4 yf0 yf1 yf2 yf3 yf4 kk
            refine hkC.out _ _ (ak_keep3 hS) (fun hHeld => ?_)
            clear hkC kC
            try simp only [Act.put, List.setIfInBounds_toArray, List.set_cons_zero, List.set_cons_succ]
            refine wpAnyH_ready (rs := [9]) (by kernel_rfl) (by simp) ?_
            refine AllReadyH.cons (by simp only [List.getElem?_toArray, List.getElem?_cons_succ, List.getElem?_cons_zero]; rfl) (fun kC hkC => ?_) AllReadyH.nil
            obtain ⟨y0, y1, y2, y3, y4⟩ := p2.cells5; have yf0 := p2.free 0; have yf1 := p2.free 1; have yf2 := p2.free 2; have yf3 := p2.free 3; have yf4 := p2.free 4; go_simp; have kk := kput5 (wr := wq) g2 (.int .i64 t2) (.int .i64 l2) (.int .i64 s2) (.bool r2) (.int .i64 x2); have hS := hS.far o2 kk; have p1 := p1.far kk ne12; have p2 := p2.put5 (.int .i64 t2) (.int .i64 l2) (.int .i64 s2) (.bool r2) (.int .i64 x2); generalize (((((wq.setCell ⟨g2, 0, none⟩ (.int .i64 t2)).setCell ⟨g2, 1, none⟩ (.int .i64 l2)).setCell ⟨g2, 2, none⟩ (.int .i64 s2)).setCell ⟨g2, 3, none⟩ (.bool r2)).setCell ⟨g2, 4, none⟩ (.int .i64 x2)) = wq at *; clear y0 y1 y2 y3 y4 yf0 yf1 yf2 yf3 yf4 kk
            refine hkC.out _ _ (ak_keep3 hS) (fun hHeld => ?_)
            clear hkC kC
            try simp only [Act.put, List.setIfInBounds_toArray, List.set_cons_zero, List.set_cons_succ]
            refine wpAnyH_done (by kernel_rfl) ?_ _
            go_wp2_with fail
            go_meet
            refine ⟨M2, t2, l2, s2, r2, x2, HL2.out, (hS.push o1 p1).push ⟨⟨o2.1.1, fun x hx => (List.mem_cons.1 hx).elim (fun e => by rw [e]; exact ne12) (o2.1.2 x)⟩, o2.2⟩ p2⟩
          · obtain ⟨M2, h2, hd⟩ : ∃ M2 h2, mDropI M ⟨t1, l1, s1, rd, x1⟩ = (M2, h2) := ⟨_, _, rfl⟩
            have hl2 : M2.L.length = 48 := by have h := mDropI_len M ⟨t1, l1, s1, rd, x1⟩; rw [hd] at h; exact h.trans HL.out
            obtain ⟨t2, l2, s2, r2, x2⟩ := h2
            have HD := Lib.hid hd; have HL2 := Lib.hid hl2
            have hk := (Keeps.refl NoS wq).drew
            have hS := HS.out.no hk; have p1 := HP1.out.no hk; have p2 := HP2.out.no hk; have o1 := HO1.out; have o2 := HO2.out
            clear hd hl2 HS HP1 HP2 HO1 HO2 hk
            go_wp2_with fail
            refine wp_region_held_drew (S := (fun w' => (w'.cell? ⟨F, 0, none⟩ = some (.int .i64 2) ∧ w'.cell? ⟨F, 1, none⟩ = some (.int .i64 2) ∧ w'.cell? ⟨F, 2, none⟩ = some (.int .i64 4) ∧ w'.cell? ⟨F, 3, none⟩ = some (.int .i64 0) ∧ w'.cell? ⟨F, 4, none⟩ = some (.int .i64 2)) ∧ (w'.cell? ⟨B, 0, none⟩ = some (.int .i64 2) ∧ w'.cell? ⟨B, 1, none⟩ = some (.int .i64 2) ∧ w'.cell? ⟨B, 2, none⟩ = some (.int .i64 4) ∧ w'.cell? ⟨B, 3, none⟩ = some (.int .i64 0) ∧ w'.cell? ⟨B, 4, none⟩ = some (.int .i64 2)) ∧ (w'.cell? ⟨H, 0, none⟩ = some (.int .i64 t1) ∧ w'.cell? ⟨H, 1, none⟩ = some (.int .i64 l1) ∧ w'.cell? ⟨H, 2, none⟩ = some (.int .i64 s1) ∧ w'.cell? ⟨H, 3, none⟩ = some (.bool rd) ∧ w'.cell? ⟨H, 4, none⟩ = some (.int .i64 x1)))) (by kernel_rfl) (ak_keep3 hS) (fun hHeld => ?_)
            refine wpAnyH_take (i := 0) (v := ?_) (by simp only [List.getElem?_toArray, List.getElem?_cons_succ, List.getElem?_cons_zero]; rfl) (by kernel_rfl) (by kernel_rfl) (by kernel_rfl) (by exact fun _ _ _ h => h) (Or.inl ⟨by rfl, ?_⟩) hHeld ?_
            rotate_left
            · intro w hSw; (try dsimp only at hSw); go_simp; (try with_reducible rfl)
            try simp only [Act.put, List.setIfInBounds_toArray, List.set_cons_zero, List.set_cons_succ]
            refine wpAnyH_take (i := 1) (v := ?_) (by simp only [List.getElem?_toArray, List.getElem?_cons_succ, List.getElem?_cons_zero]; rfl) (by kernel_rfl) (by kernel_rfl) (by kernel_rfl) (by exact fun _ _ _ h => h) (Or.inl ⟨by rfl, ?_⟩) hHeld ?_
            rotate_left
            · intro w hSw; (try dsimp only at hSw); go_simp; (try with_reducible rfl)
            try simp only [Act.put, List.setIfInBounds_toArray, List.set_cons_zero, List.set_cons_succ]
            refine wpAnyH_take (i := 2) (v := ?_) (by simp only [List.getElem?_toArray, List.getElem?_cons_succ, List.getElem?_cons_zero]; rfl) (by kernel_rfl) (by kernel_rfl) (by kernel_rfl) (by exact fun _ _ _ h => h) (Or.inl ⟨by rfl, ?_⟩) hHeld ?_
            rotate_left
            · intro w hSw; (try dsimp only at hSw); go_simp; (try with_reducible rfl)
            try simp only [Act.put, List.setIfInBounds_toArray, List.set_cons_zero, List.set_cons_succ]
            refine wpAnyH_take (i := 4) (v := ?_) (by simp only [List.getElem?_toArray, List.getElem?_cons_succ, List.getElem?_cons_zero]; rfl) (by kernel_rfl) (by kernel_rfl) (by kernel_rfl) (by exact fun _ _ _ h => h) (Or.inl ⟨by rfl, ?_⟩) hHeld ?_
            rotate_left
            · intro w hSw; (try dsimp only at hSw); go_simp; (try with_reducible rfl)
            try simp only [Act.put, List.setIfInBounds_toArray, List.set_cons_zero, List.set_cons_succ]
            refine wpAnyH_take (i := 5) (v := ?_) (by simp only [List.getElem?_toArray, List.getElem?_cons_succ, List.getElem?_cons_zero]; rfl) (by kernel_rfl) (by kernel_rfl) (by kernel_rfl) (by exact fun _ _ _ h => h) (Or.inl ⟨by rfl, ?_⟩) hHeld ?_
            rotate_left
            · intro w hSw; (try dsimp only at hSw); go_simp; (try with_reducible rfl)
            try simp only [Act.put, List.setIfInBounds_toArray, List.set_cons_zero, List.set_cons_succ]
            refine wpAnyH_take (i := 6) (v := ?_) (by simp only [List.getElem?_toArray, List.getElem?_cons_succ, List.getElem?_cons_zero]; rfl) (by kernel_rfl) (by kernel_rfl) (by kernel_rfl) (by exact fun _ _ _ h => h) (Or.inl ⟨by rfl, ?_⟩) hHeld ?_
            rotate_left
            · intro w hSw; (try dsimp only at hSw); go_simp; (try with_reducible rfl)
            try simp only [Act.put, List.setIfInBounds_toArray, List.set_cons_zero, List.set_cons_succ]
            refine wpAnyH_ready (rs := [3]) (by kernel_rfl) (by simp) ?_
            refine AllReadyH.cons (by simp only [List.getElem?_toArray, List.getElem?_cons_succ, List.getElem?_cons_zero]; rfl) (fun kC hkC => ?_) AllReadyH.nil
            go_simp
            refine (drop8_any t1 l1 s1 rd x1 a v M _ hS.tw.s.m HL.out).mono ?_; rw [HD.out]; unfold handV; dsimp only; rintro e3 wq ⟨rfl, hm, hkk⟩; have hS := hS.turnS hm hkk; have p1 := p1.keep hkk o1.2.1; have p2 := p2.keep hkk o2.2.1; clear hm hkk
            (try go_wp2_with fail)
            refine hkC.out _ _ (ak_keep3 hS) (fun hHeld => ?_)
            clear hkC kC
            try simp only [Act.put, List.setIfInBounds_toArray, List.set_cons_zero, List.set_cons_succ]
            refine wpAnyH_ready (rs := [7]) (by kernel_rfl) (by simp) ?_
            refine AllReadyH.cons (by simp only [List.getElem?_toArray, List.getElem?_cons_succ, List.getElem?_cons_zero]; rfl) (fun kC hkC => ?_) AllReadyH.nil
            go_simp
            refine (rdrop8_any t1 l1 s1 rd x1 c u M _ hS.tw.r.m HL.out).mono ?_; rw [HD.out]; unfold handV; dsimp only; rintro e3 wq ⟨rfl, hm, hkk⟩; have hS := hS.turnR hm hkk; have p1 := p1.keep hkk o1.2.2; have p2 := p2.keep hkk o2.2.2; clear hm hkk
            (try go_wp2_with fail)
            refine hkC.out _ _ (ak_keep3 hS) (fun hHeld => ?_)
            clear hkC kC
            try simp only [Act.put, List.setIfInBounds_toArray, List.set_cons_zero, List.set_cons_succ]
            refine wpAnyH_ready (rs := [8]) (by kernel_rfl) (by simp) ?_
            refine AllReadyH.cons (by simp only [List.getElem?_toArray, List.getElem?_cons_succ, List.getElem?_cons_zero]; rfl) (fun kC hkC => ?_) AllReadyH.nil
            obtain ⟨y0, y1, y2, y3, y4⟩ := p1.cells5; have yf0 := p1.free 0; have yf1 := p1.free 1; have yf2 := p1.free 2; have yf3 := p1.free 3; have yf4 := p1.free 4; go_simp; have kk := kput5 (wr := wq) g1 (.int .i64 t2) (.int .i64 l2) (.int .i64 s2) (.bool r2) (.int .i64 x2); have hS := hS.far o1 kk; have p2 := p2.far kk ne12.symm; have p1 := p1.put5 (.int .i64 t2) (.int .i64 l2) (.int .i64 s2) (.bool r2) (.int .i64 x2); generalize (((((wq.setCell ⟨g1, 0, none⟩ (.int .i64 t2)).setCell ⟨g1, 1, none⟩ (.int .i64 l2)).setCell ⟨g1, 2, none⟩ (.int .i64 s2)).setCell ⟨g1, 3, none⟩ (.bool r2)).setCell ⟨g1, 4, none⟩ (.int .i64 x2)) = wq at *; clear y0 y1 y2 y3 y4 yf0 yf1 yf2 yf3 yf4 kk
            refine hkC.out _ _ (ak_keep3 hS) (fun hHeld => ?_)
            clear hkC kC
            try simp only [Act.put, List.setIfInBounds_toArray, List.set_cons_zero, List.set_cons_succ]
            refine wpAnyH_ready (rs := [9]) (by kernel_rfl) (by simp) ?_
            refine AllReadyH.cons (by simp only [List.getElem?_toArray, List.getElem?_cons_succ, List.getElem?_cons_zero]; rfl) (fun kC hkC => ?_) AllReadyH.nil
            obtain ⟨y0, y1, y2, y3, y4⟩ := p2.cells5; have yf0 := p2.free 0; have yf1 := p2.free 1; have yf2 := p2.free 2; have yf3 := p2.free 3; have yf4 := p2.free 4; go_simp; have kk := kput5 (wr := wq) g2 (.int .i64 t2) (.int .i64 l2) (.int .i64 s2) (.bool r2) (.int .i64 x2); have hS := hS.far o2 kk; have p1 := p1.far kk ne12; have p2 := p2.put5 (.int .i64 t2) (.int .i64 l2) (.int .i64 s2) (.bool r2) (.int .i64 x2); generalize (((((wq.setCell ⟨g2, 0, none⟩ (.int .i64 t2)).setCell ⟨g2, 1, none⟩ (.int .i64 l2)).setCell ⟨g2, 2, none⟩ (.int .i64 s2)).setCell ⟨g2, 3, none⟩ (.bool r2)).setCell ⟨g2, 4, none⟩ (.int .i64 x2)) = wq at *; clear y0 y1 y2 y3 y4 yf0 yf1 yf2 yf3 yf4 kk
            refine hkC.out _ _ (ak_keep3 hS) (fun hHeld => ?_)
            clear hkC kC
            try simp only [Act.put, List.setIfInBounds_toArray, List.set_cons_zero, List.set_cons_succ]
            refine wpAnyH_done (by kernel_rfl) ?_ _
            go_wp2_with fail
            go_meet
            refine ⟨M2, t2, l2, s2, r2, x2, HL2.out, (hS.push o1 p1).push ⟨⟨o2.1.1, fun x hx => (List.mem_cons.1 hx).elim (fun e => by rw [e]; exact ne12) (o2.1.2 x)⟩, o2.2⟩ p2⟩
        case rest =>
          clear HS HO1 HO2 HP1 HP2 HL
          obtain ⟨M2, t2, l2, s2, r2, x2, hl2, hS⟩ := hcut
          obtain ⟨id1, hid⟩ : ∃ z, idP ⟨2, 2, 4, 0, 2⟩ t1 l1 = z := ⟨_, rfl⟩
          obtain ⟨la, hla⟩ : ∃ z, lastI M2 l1 = z := ⟨_, rfl⟩
          have HID := Lib.hid hid; have HLA := Lib.hid hla; have HL2 := Lib.hid hl2
          have hS := hS.no ((Keeps.refl NoS _).drew)
          clear hid hla hl2
          cases r2
          · go_wp2_with fail
            refine wp_region_held_drew (S := (fun w' => (w'.cell? ⟨F, 0, none⟩ = some (.int .i64 2) ∧ w'.cell? ⟨F, 1, none⟩ = some (.int .i64 2) ∧ w'.cell? ⟨F, 2, none⟩ = some (.int .i64 4) ∧ w'.cell? ⟨F, 3, none⟩ = some (.int .i64 0) ∧ w'.cell? ⟨F, 4, none⟩ = some (.int .i64 2)) ∧ (w'.cell? ⟨B, 0, none⟩ = some (.int .i64 2) ∧ w'.cell? ⟨B, 1, none⟩ = some (.int .i64 2) ∧ w'.cell? ⟨B, 2, none⟩ = some (.int .i64 4) ∧ w'.cell? ⟨B, 3, none⟩ = some (.int .i64 0) ∧ w'.cell? ⟨B, 4, none⟩ = some (.int .i64 2)) ∧ (w'.cell? ⟨H, 0, none⟩ = some (.int .i64 t1) ∧ w'.cell? ⟨H, 1, none⟩ = some (.int .i64 l1) ∧ w'.cell? ⟨H, 2, none⟩ = some (.int .i64 s1) ∧ w'.cell? ⟨H, 3, none⟩ = some (.bool rd) ∧ w'.cell? ⟨H, 4, none⟩ = some (.int .i64 x1)) ∧ (w'.cell? ⟨g1, 0, none⟩ = some (.int .i64 t2) ∧ w'.cell? ⟨g1, 1, none⟩ = some (.int .i64 l2) ∧ w'.cell? ⟨g1, 2, none⟩ = some (.int .i64 s2) ∧ w'.cell? ⟨g1, 3, none⟩ = some (.bool false) ∧ w'.cell? ⟨g1, 4, none⟩ = some (.int .i64 x2)) ∧ (w'.cell? ⟨g2, 0, none⟩ = some (.int .i64 t2) ∧ w'.cell? ⟨g2, 1, none⟩ = some (.int .i64 l2) ∧ w'.cell? ⟨g2, 2, none⟩ = some (.int .i64 s2) ∧ w'.cell? ⟨g2, 3, none⟩ = some (.bool false) ∧ w'.cell? ⟨g2, 4, none⟩ = some (.int .i64 x2)))) (by kernel_rfl) (ak_keep5 hS) (fun hHeld => ?_)
            refine wpAnyH_ready (rs := [0]) (by kernel_rfl) (by simp) ?_
            refine AllReadyH.cons (by simp only [List.getElem?_toArray, List.getElem?_cons_succ, List.getElem?_cons_zero]; rfl) (fun kC hkC => ?_) AllReadyH.nil
            go_simp
            refine (told9_any _).mono ?_; rintro e x1' ⟨rfl, hkk⟩; have hS := hS.no hkk; clear hkk
            (try go_wp2_with fail)
            refine hkC.out _ _ (ak_keep5 hS) (fun hHeld => ?_)
            clear hkC kC
            try simp only [Act.put, List.setIfInBounds_toArray, List.set_cons_zero, List.set_cons_succ]
            refine wpAnyH_take (i := 1) (v := ?_) (by simp only [List.getElem?_toArray, List.getElem?_cons_succ, List.getElem?_cons_zero]; rfl) (by kernel_rfl) (by kernel_rfl) (by kernel_rfl) (by exact fun _ _ _ h => h) (Or.inl ⟨by rfl, ?_⟩) hHeld ?_
            rotate_left
            · intro w hSw; (try dsimp only at hSw); go_simp; (try with_reducible rfl)
            try simp only [Act.put, List.setIfInBounds_toArray, List.set_cons_zero, List.set_cons_succ]
            refine wpAnyH_take (i := 2) (v := ?_) (by simp only [List.getElem?_toArray, List.getElem?_cons_succ, List.getElem?_cons_zero]; rfl) (by kernel_rfl) (by kernel_rfl) (by kernel_rfl) (by exact fun _ _ _ h => h) (Or.inl ⟨by rfl, ?_⟩) hHeld ?_
            rotate_left
            · intro w hSw; (try dsimp only at hSw); go_simp; (try with_reducible rfl)
            try simp only [Act.put, List.setIfInBounds_toArray, List.set_cons_zero, List.set_cons_succ]
            refine wpAnyH_take (i := 3) (v := ?_) (by simp only [List.getElem?_toArray, List.getElem?_cons_succ, List.getElem?_cons_zero]; rfl) (by kernel_rfl) (by kernel_rfl) (by kernel_rfl) (by exact fun _ _ _ h => h) (Or.inl ⟨by rfl, ?_⟩) hHeld ?_
            rotate_left
            · intro w hSw; (try dsimp only at hSw); go_simp; (try with_reducible rfl)
            try simp only [Act.put, List.setIfInBounds_toArray, List.set_cons_zero, List.set_cons_succ]
            refine wpAnyH_take (i := 4) (v := ?_) (by simp only [List.getElem?_toArray, List.getElem?_cons_succ, List.getElem?_cons_zero]; rfl) (by kernel_rfl) (by kernel_rfl) (by kernel_rfl) (by exact fun _ _ _ h => h) (Or.inl ⟨by rfl, ?_⟩) hHeld ?_
            rotate_left
            · intro w hSw; (try dsimp only at hSw); go_simp; (try with_reducible rfl)
            try simp only [Act.put, List.setIfInBounds_toArray, List.set_cons_zero, List.set_cons_succ]
            refine wpAnyH_take (i := 5) (v := ?_) (by simp only [List.getElem?_toArray, List.getElem?_cons_succ, List.getElem?_cons_zero]; rfl) (by kernel_rfl) (by kernel_rfl) (by kernel_rfl) (by exact fun _ _ _ h => h) (Or.inl ⟨by rfl, ?_⟩) hHeld ?_
            rotate_left
            · intro w hSw; (try dsimp only at hSw); go_simp; (try with_reducible rfl)
            try simp only [Act.put, List.setIfInBounds_toArray, List.set_cons_zero, List.set_cons_succ]
            refine wpAnyH_take (i := 6) (v := ?_) (by simp only [List.getElem?_toArray, List.getElem?_cons_succ, List.getElem?_cons_zero]; rfl) (by kernel_rfl) (by kernel_rfl) (by kernel_rfl) (by exact fun _ _ _ h => h) (Or.inl ⟨by rfl, ?_⟩) hHeld ?_
            rotate_left
            · intro w hSw; (try dsimp only at hSw); go_simp; (try with_reducible rfl)
            try simp only [Act.put, List.setIfInBounds_toArray, List.set_cons_zero, List.set_cons_succ]
            refine wpAnyH_take (i := 7) (v := ?_) (by simp only [List.getElem?_toArray, List.getElem?_cons_succ, List.getElem?_cons_zero]; rfl) (by kernel_rfl) (by kernel_rfl) (by kernel_rfl) (by exact fun _ _ _ h => h) (Or.inl ⟨by rfl, ?_⟩) hHeld ?_
            rotate_left
            · intro w hSw; (try dsimp only at hSw); go_simp; (try with_reducible rfl)
            try simp only [Act.put, List.setIfInBounds_toArray, List.set_cons_zero, List.set_cons_succ]
            refine wpAnyH_take (i := 8) (v := ?_) (by simp only [List.getElem?_toArray, List.getElem?_cons_succ, List.getElem?_cons_zero]; rfl) (by kernel_rfl) (by kernel_rfl) (by kernel_rfl) (by exact fun _ _ _ h => h) (Or.inl ⟨by rfl, ?_⟩) hHeld ?_
            rotate_left
            · intro w hSw; (try dsimp only at hSw); go_simp; (try with_reducible rfl)
            try simp only [Act.put, List.setIfInBounds_toArray, List.set_cons_zero, List.set_cons_succ]
            refine wpAnyH_ready (rs := [9]) (by kernel_rfl) (by simp) ?_
            refine AllReadyH.cons (by simp only [List.getElem?_toArray, List.getElem?_cons_succ, List.getElem?_cons_zero]; rfl) (fun kC hkC => ?_) AllReadyH.nil
            go_simp
            refine (same_any a c v u M2 M2 _ hS.tw.s.m hS.tw.r.m rfl).mono ?_; rintro e x2' ⟨rfl, hkk⟩; have hS := hS.no hkk; clear hkk
            (try go_wp2_with fail)
            refine hkC.out _ _ (ak_keep5 hS) (fun hHeld => ?_)
            clear hkC kC
            try simp only [Act.put, List.setIfInBounds_toArray, List.set_cons_zero, List.set_cons_succ]
            refine wpAnyH_take (i := 10) (v := ?_) (by simp only [List.getElem?_toArray, List.getElem?_cons_succ, List.getElem?_cons_zero]; rfl) (by kernel_rfl) (by kernel_rfl) (by kernel_rfl) (by exact fun _ _ _ h => h) (Or.inl ⟨by rfl, ?_⟩) hHeld ?_
            rotate_left
            · intro w hSw; (try dsimp only at hSw); go_simp; (try with_reducible rfl)
            try simp only [Act.put, List.setIfInBounds_toArray, List.set_cons_zero, List.set_cons_succ]
            refine wpAnyH_take (i := 11) (v := ?_) (by simp only [List.getElem?_toArray, List.getElem?_cons_succ, List.getElem?_cons_zero]; rfl) (by kernel_rfl) (by kernel_rfl) (by kernel_rfl) (by exact fun _ _ _ h => h) (Or.inl ⟨by rfl, ?_⟩) hHeld ?_
            rotate_left
            · intro w hSw; (try dsimp only at hSw); go_simp; (try with_reducible rfl)
            try simp only [Act.put, List.setIfInBounds_toArray, List.set_cons_zero, List.set_cons_succ]
            refine wpAnyH_take (i := 12) (v := ?_) (by simp only [List.getElem?_toArray, List.getElem?_cons_succ, List.getElem?_cons_zero]; rfl) (by kernel_rfl) (by kernel_rfl) (by kernel_rfl) (by exact fun _ _ _ h => h) (Or.inl ⟨by rfl, ?_⟩) hHeld ?_
            rotate_left
            · intro w hSw; (try dsimp only at hSw); go_simp; (try with_reducible rfl)
            try simp only [Act.put, List.setIfInBounds_toArray, List.set_cons_zero, List.set_cons_succ]
            refine wpAnyH_take (i := 13) (v := ?_) (by simp only [List.getElem?_toArray, List.getElem?_cons_succ, List.getElem?_cons_zero]; rfl) (by kernel_rfl) (by kernel_rfl) (by kernel_rfl) (by exact fun _ _ _ h => h) (Or.inl ⟨by rfl, ?_⟩) hHeld ?_
            rotate_left
            · intro w hSw; (try dsimp only at hSw); go_simp; (try with_reducible rfl)
            try simp only [Act.put, List.setIfInBounds_toArray, List.set_cons_zero, List.set_cons_succ]
            refine wpAnyH_ready (rs := [14]) (by kernel_rfl) (by simp) ?_
            refine AllReadyH.cons (by simp only [List.getElem?_toArray, List.getElem?_cons_succ, List.getElem?_cons_zero]; rfl) (fun kC hkC => ?_) AllReadyH.nil
            go_simp
            refine (like_keep w _ a c v u M2 hS.tw).mono ?_; rintro e x3' ⟨rfl, _, hkk⟩; have hS := hS.no hkk; clear hkk
            (try go_wp2_with fail)
            refine hkC.out _ _ (ak_keep5 hS) (fun hHeld => ?_)
            clear hkC kC
            try simp only [Act.put, List.setIfInBounds_toArray, List.set_cons_zero, List.set_cons_succ]
            refine wpAnyH_take (i := 15) (v := ?_) (by simp only [List.getElem?_toArray, List.getElem?_cons_succ, List.getElem?_cons_zero]; rfl) (by kernel_rfl) (by kernel_rfl) (by kernel_rfl) (by exact fun _ _ _ h => h) (Or.inl ⟨by rfl, ?_⟩) hHeld ?_
            rotate_left
            · intro w hSw; (try dsimp only at hSw); go_simp; (try with_reducible rfl)
            try simp only [Act.put, List.setIfInBounds_toArray, List.set_cons_zero, List.set_cons_succ]
            refine wpAnyH_take (i := 16) (v := ?_) (by simp only [List.getElem?_toArray, List.getElem?_cons_succ, List.getElem?_cons_zero]; rfl) (by kernel_rfl) (by kernel_rfl) (by kernel_rfl) (by exact fun _ _ _ h => h) (Or.inl ⟨by rfl, ?_⟩) hHeld ?_
            rotate_left
            · intro w hSw; (try dsimp only at hSw); go_simp; (try with_reducible rfl)
            try simp only [Act.put, List.setIfInBounds_toArray, List.set_cons_zero, List.set_cons_succ]
            refine wpAnyH_take (i := 17) (v := ?_) (by simp only [List.getElem?_toArray, List.getElem?_cons_succ, List.getElem?_cons_zero]; rfl) (by kernel_rfl) (by kernel_rfl) (by kernel_rfl) (by exact fun _ _ _ h => h) (Or.inl ⟨by rfl, ?_⟩) hHeld ?_
            rotate_left
            · intro w hSw; (try dsimp only at hSw); go_simp; (try with_reducible rfl)
            try simp only [Act.put, List.setIfInBounds_toArray, List.set_cons_zero, List.set_cons_succ]
            refine wpAnyH_take (i := 18) (v := ?_) (by simp only [List.getElem?_toArray, List.getElem?_cons_succ, List.getElem?_cons_zero]; rfl) (by kernel_rfl) (by kernel_rfl) (by kernel_rfl) (by exact fun _ _ _ h => h) (Or.inl ⟨by rfl, ?_⟩) hHeld ?_
            rotate_left
            · intro w hSw; (try dsimp only at hSw); go_simp; (try with_reducible rfl)
            try simp only [Act.put, List.setIfInBounds_toArray, List.set_cons_zero, List.set_cons_succ]
            refine wpAnyH_take (i := 19) (v := ?_) (by simp only [List.getElem?_toArray, List.getElem?_cons_succ, List.getElem?_cons_zero]; rfl) (by kernel_rfl) (by kernel_rfl) (by kernel_rfl) (by exact fun _ _ _ h => h) (Or.inl ⟨by rfl, ?_⟩) hHeld ?_
            rotate_left
            · intro w hSw; (try dsimp only at hSw); go_simp; (try with_reducible rfl)
            try simp only [Act.put, List.setIfInBounds_toArray, List.set_cons_zero, List.set_cons_succ]
            refine wpAnyH_take (i := 20) (v := ?_) (by simp only [List.getElem?_toArray, List.getElem?_cons_succ, List.getElem?_cons_zero]; rfl) (by kernel_rfl) (by kernel_rfl) (by kernel_rfl) (by exact fun _ _ _ h => h) (Or.inl ⟨by rfl, ?_⟩) hHeld ?_
            rotate_left
            · intro w hSw; (try dsimp only at hSw); go_simp; (try with_reducible rfl)
            try simp only [Act.put, List.setIfInBounds_toArray, List.set_cons_zero, List.set_cons_succ]
            refine wpAnyH_take (i := 21) (v := ?_) (by simp only [List.getElem?_toArray, List.getElem?_cons_succ, List.getElem?_cons_zero]; rfl) (by kernel_rfl) (by kernel_rfl) (by kernel_rfl) (by exact fun _ _ _ h => h) (Or.inl ⟨by rfl, ?_⟩) hHeld ?_
            rotate_left
            · intro w hSw; (try dsimp only at hSw); go_simp; (try with_reducible rfl)
            try simp only [Act.put, List.setIfInBounds_toArray, List.set_cons_zero, List.set_cons_succ]
            refine wpAnyH_take (i := 23) (v := ?_) (by simp only [List.getElem?_toArray, List.getElem?_cons_succ, List.getElem?_cons_zero]; rfl) (by kernel_rfl) (by kernel_rfl) (by kernel_rfl) (by exact fun _ _ _ h => h) (Or.inl ⟨by rfl, ?_⟩) hHeld ?_
            rotate_left
            · intro w hSw; (try dsimp only at hSw); go_simp; (try with_reducible rfl)
            try simp only [Act.put, List.setIfInBounds_toArray, List.set_cons_zero, List.set_cons_succ]
            refine wpAnyH_take (i := 24) (v := ?_) (by simp only [List.getElem?_toArray, List.getElem?_cons_succ, List.getElem?_cons_zero]; rfl) (by kernel_rfl) (by kernel_rfl) (by kernel_rfl) (by exact fun _ _ _ h => h) (Or.inl ⟨by rfl, ?_⟩) hHeld ?_
            rotate_left
            · intro w hSw; (try dsimp only at hSw); go_simp; (try with_reducible rfl)
            try simp only [Act.put, List.setIfInBounds_toArray, List.set_cons_zero, List.set_cons_succ]
            refine wpAnyH_take (i := 25) (v := ?_) (by simp only [List.getElem?_toArray, List.getElem?_cons_succ, List.getElem?_cons_zero]; rfl) (by kernel_rfl) (by kernel_rfl) (by kernel_rfl) (by exact fun _ _ _ h => h) (Or.inl ⟨by rfl, ?_⟩) hHeld ?_
            rotate_left
            · intro w hSw; (try dsimp only at hSw); go_simp; (try with_reducible rfl)
            try simp only [Act.put, List.setIfInBounds_toArray, List.set_cons_zero, List.set_cons_succ]
            refine wpAnyH_take (i := 26) (v := ?_) (by simp only [List.getElem?_toArray, List.getElem?_cons_succ, List.getElem?_cons_zero]; rfl) (by kernel_rfl) (by kernel_rfl) (by kernel_rfl) (by exact fun _ _ _ h => h) (Or.inl ⟨by rfl, ?_⟩) hHeld ?_
            rotate_left
            · intro w hSw; (try dsimp only at hSw); go_simp; (try with_reducible rfl)
            try simp only [Act.put, List.setIfInBounds_toArray, List.set_cons_zero, List.set_cons_succ]
            refine wpAnyH_take (i := 27) (v := ?_) (by simp only [List.getElem?_toArray, List.getElem?_cons_succ, List.getElem?_cons_zero]; rfl) (by kernel_rfl) (by kernel_rfl) (by kernel_rfl) (by exact fun _ _ _ h => h) (Or.inl ⟨by rfl, ?_⟩) hHeld ?_
            rotate_left
            · intro w hSw; (try dsimp only at hSw); go_simp; (try with_reducible rfl)
            try simp only [Act.put, List.setIfInBounds_toArray, List.set_cons_zero, List.set_cons_succ]
            refine wpAnyH_ready (rs := [22]) (by kernel_rfl) (by simp) ?_
            refine AllReadyH.cons (by simp only [List.getElem?_toArray, List.getElem?_cons_succ, List.getElem?_cons_zero]; rfl) (fun kC hkC => ?_) AllReadyH.nil
            go_simp
            refine (id_any 2 2 4 0 2 t1 l1 _).mono ?_; rw [HID.out]; rintro e x4' ⟨rfl, hkk⟩; have hS := hS.no hkk; clear hkk
            (try go_wp2_with fail)
            refine hkC.out _ _ (ak_keep5 hS) (fun hHeld => ?_)
            clear hkC kC
            try simp only [Act.put, List.setIfInBounds_toArray, List.set_cons_zero, List.set_cons_succ]
            refine wpAnyH_ready (rs := [28]) (by kernel_rfl) (by simp) ?_
            refine AllReadyH.cons (by simp only [List.getElem?_toArray, List.getElem?_cons_succ, List.getElem?_cons_zero]; rfl) (fun kC hkC => ?_) AllReadyH.nil
            go_simp
            refine (rid_any t1 l1 _).mono ?_; rw [HID.out]; rintro e x5' ⟨rfl, hkk⟩; have hS := hS.no hkk; clear hkk
            (try go_wp2_with fail)
            refine hkC.out _ _ (ak_keep5 hS) (fun hHeld => ?_)
            clear hkC kC
            try simp only [Act.put, List.setIfInBounds_toArray, List.set_cons_zero, List.set_cons_succ]
            refine wpAnyH_take (i := 29) (v := ?_) (by simp only [List.getElem?_toArray, List.getElem?_cons_succ, List.getElem?_cons_zero]; rfl) (by kernel_rfl) (by kernel_rfl) (by kernel_rfl) (by exact fun _ _ _ h => h) (Or.inl ⟨by rfl, ?_⟩) hHeld ?_
            rotate_left
            · intro w hSw; (try dsimp only at hSw); go_simp; (try with_reducible rfl)
            try simp only [Act.put, List.setIfInBounds_toArray, List.set_cons_zero, List.set_cons_succ]
            refine wpAnyH_take (i := 30) (v := ?_) (by simp only [List.getElem?_toArray, List.getElem?_cons_succ, List.getElem?_cons_zero]; rfl) (by kernel_rfl) (by kernel_rfl) (by kernel_rfl) (by exact fun _ _ _ h => h) (Or.inl ⟨by rfl, ?_⟩) hHeld ?_
            rotate_left
            · intro w hSw; (try dsimp only at hSw); go_simp; (try with_reducible rfl)
            try simp only [Act.put, List.setIfInBounds_toArray, List.set_cons_zero, List.set_cons_succ]
            refine wpAnyH_take (i := 31) (v := ?_) (by simp only [List.getElem?_toArray, List.getElem?_cons_succ, List.getElem?_cons_zero]; rfl) (by kernel_rfl) (by kernel_rfl) (by kernel_rfl) (by exact fun _ _ _ h => h) (Or.inl ⟨by rfl, ?_⟩) hHeld ?_
            rotate_left
            · intro w hSw; (try dsimp only at hSw); go_simp; (try with_reducible rfl)
            try simp only [Act.put, List.setIfInBounds_toArray, List.set_cons_zero, List.set_cons_succ]
            refine wpAnyH_take (i := 32) (v := ?_) (by simp only [List.getElem?_toArray, List.getElem?_cons_succ, List.getElem?_cons_zero]; rfl) (by kernel_rfl) (by kernel_rfl) (by kernel_rfl) (by exact fun _ _ _ h => h) (Or.inl ⟨by rfl, ?_⟩) hHeld ?_
            rotate_left
            · intro w hSw; (try dsimp only at hSw); go_simp; (try with_reducible rfl)
            try simp only [Act.put, List.setIfInBounds_toArray, List.set_cons_zero, List.set_cons_succ]
            refine wpAnyH_take (i := 33) (v := ?_) (by simp only [List.getElem?_toArray, List.getElem?_cons_succ, List.getElem?_cons_zero]; rfl) (by kernel_rfl) (by kernel_rfl) (by kernel_rfl) (by exact fun _ _ _ h => h) (Or.inl ⟨by rfl, ?_⟩) hHeld ?_
            rotate_left
            · intro w hSw; (try dsimp only at hSw); go_simp; (try with_reducible rfl)
            try simp only [Act.put, List.setIfInBounds_toArray, List.set_cons_zero, List.set_cons_succ]
            refine wpAnyH_take (i := 34) (v := ?_) (by simp only [List.getElem?_toArray, List.getElem?_cons_succ, List.getElem?_cons_zero]; rfl) (by kernel_rfl) (by kernel_rfl) (by kernel_rfl) (by exact fun _ _ _ h => h) (Or.inl ⟨by rfl, ?_⟩) hHeld ?_
            rotate_left
            · intro w hSw; (try dsimp only at hSw); go_simp; (try with_reducible rfl)
            try simp only [Act.put, List.setIfInBounds_toArray, List.set_cons_zero, List.set_cons_succ]
            refine wpAnyH_take (i := 35) (v := ?_) (by simp only [List.getElem?_toArray, List.getElem?_cons_succ, List.getElem?_cons_zero]; rfl) (by kernel_rfl) (by kernel_rfl) (by kernel_rfl) (by exact fun _ _ _ h => h) (Or.inl ⟨by rfl, ?_⟩) hHeld ?_
            rotate_left
            · intro w hSw; (try dsimp only at hSw); go_simp; (try with_reducible rfl)
            try simp only [Act.put, List.setIfInBounds_toArray, List.set_cons_zero, List.set_cons_succ]
            refine wpAnyH_take (i := 37) (v := ?_) (by simp only [List.getElem?_toArray, List.getElem?_cons_succ, List.getElem?_cons_zero]; rfl) (by kernel_rfl) (by kernel_rfl) (by kernel_rfl) (by exact fun _ _ _ h => h) (Or.inl ⟨by rfl, ?_⟩) hHeld ?_
            rotate_left
            · intro w hSw; (try dsimp only at hSw); go_simp; (try with_reducible rfl)
            try simp only [Act.put, List.setIfInBounds_toArray, List.set_cons_zero, List.set_cons_succ]
            refine wpAnyH_take (i := 38) (v := ?_) (by simp only [List.getElem?_toArray, List.getElem?_cons_succ, List.getElem?_cons_zero]; rfl) (by kernel_rfl) (by kernel_rfl) (by kernel_rfl) (by exact fun _ _ _ h => h) (Or.inl ⟨by rfl, ?_⟩) hHeld ?_
            rotate_left
            · intro w hSw; (try dsimp only at hSw); go_simp; (try with_reducible rfl)
            try simp only [Act.put, List.setIfInBounds_toArray, List.set_cons_zero, List.set_cons_succ]
            refine wpAnyH_take (i := 39) (v := ?_) (by simp only [List.getElem?_toArray, List.getElem?_cons_succ, List.getElem?_cons_zero]; rfl) (by kernel_rfl) (by kernel_rfl) (by kernel_rfl) (by exact fun _ _ _ h => h) (Or.inl ⟨by rfl, ?_⟩) hHeld ?_
            rotate_left
            · intro w hSw; (try dsimp only at hSw); go_simp; (try with_reducible rfl)
            try simp only [Act.put, List.setIfInBounds_toArray, List.set_cons_zero, List.set_cons_succ]
            refine wpAnyH_take (i := 40) (v := ?_) (by simp only [List.getElem?_toArray, List.getElem?_cons_succ, List.getElem?_cons_zero]; rfl) (by kernel_rfl) (by kernel_rfl) (by kernel_rfl) (by exact fun _ _ _ h => h) (Or.inl ⟨by rfl, ?_⟩) hHeld ?_
            rotate_left
            · intro w hSw; (try dsimp only at hSw); go_simp; (try with_reducible rfl)
            try simp only [Act.put, List.setIfInBounds_toArray, List.set_cons_zero, List.set_cons_succ]
            refine wpAnyH_ready (rs := [36]) (by kernel_rfl) (by simp) ?_
            refine AllReadyH.cons (by simp only [List.getElem?_toArray, List.getElem?_cons_succ, List.getElem?_cons_zero]; rfl) (fun kC hkC => ?_) AllReadyH.nil
            go_simp
            refine (last8_any l1 a v M2 _ hS.tw.s.m HL2.out).mono ?_; rw [HLA.out]; rintro e x6' ⟨rfl, hkk⟩; have hS := hS.no hkk; clear hkk
            (try go_wp2_with fail)
            refine hkC.out _ _ (ak_keep5 hS) (fun hHeld => ?_)
            clear hkC kC
            try simp only [Act.put, List.setIfInBounds_toArray, List.set_cons_zero, List.set_cons_succ]
            refine wpAnyH_ready (rs := [41]) (by kernel_rfl) (by simp) ?_
            refine AllReadyH.cons (by simp only [List.getElem?_toArray, List.getElem?_cons_succ, List.getElem?_cons_zero]; rfl) (fun kC hkC => ?_) AllReadyH.nil
            go_simp
            refine (rlast8_any l1 c u M2 _ hS.tw.r.m HL2.out).mono ?_; rw [HLA.out]; rintro e x7' ⟨rfl, hkk⟩; have hS := hS.no hkk; clear hkk
            (try go_wp2_with fail)
            refine hkC.out _ _ (ak_keep5 hS) (fun hHeld => ?_)
            clear hkC kC
            try simp only [Act.put, List.setIfInBounds_toArray, List.set_cons_zero, List.set_cons_succ]
            refine wpAnyH_take (i := 42) (v := ?_) (by simp only [List.getElem?_toArray, List.getElem?_cons_succ, List.getElem?_cons_zero]; rfl) (by kernel_rfl) (by kernel_rfl) (by kernel_rfl) (by exact fun _ _ _ h => h) (Or.inl ⟨by rfl, ?_⟩) hHeld ?_
            rotate_left
            · intro w hSw; (try dsimp only at hSw); go_simp; (try with_reducible rfl)
            try simp only [Act.put, List.setIfInBounds_toArray, List.set_cons_zero, List.set_cons_succ]
            refine wpAnyH_take (i := 43) (v := ?_) (by simp only [List.getElem?_toArray, List.getElem?_cons_succ, List.getElem?_cons_zero]; rfl) (by kernel_rfl) (by kernel_rfl) (by kernel_rfl) (by exact fun _ _ _ h => h) (Or.inl ⟨by rfl, ?_⟩) hHeld ?_
            rotate_left
            · intro w hSw; (try dsimp only at hSw); go_simp; (try with_reducible rfl)
            try simp only [Act.put, List.setIfInBounds_toArray, List.set_cons_zero, List.set_cons_succ]
            refine wpAnyH_take (i := 44) (v := ?_) (by simp only [List.getElem?_toArray, List.getElem?_cons_succ, List.getElem?_cons_zero]; rfl) (by kernel_rfl) (by kernel_rfl) (by kernel_rfl) (by exact fun _ _ _ h => h) (Or.inl ⟨by rfl, ?_⟩) hHeld ?_
            rotate_left
            · intro w hSw; (try dsimp only at hSw); go_simp; (try with_reducible rfl)
            try simp only [Act.put, List.setIfInBounds_toArray, List.set_cons_zero, List.set_cons_succ]
            refine wpAnyH_done (by kernel_rfl) ?_ _
            go_wp2_with fail
            go_ret
            exact ⟨by simp, hS.bg.kp⟩
          · go_wp2_with fail
            refine wp_region_held_drew (S := (fun w' => (w'.cell? ⟨F, 0, none⟩ = some (.int .i64 2) ∧ w'.cell? ⟨F, 1, none⟩ = some (.int .i64 2) ∧ w'.cell? ⟨F, 2, none⟩ = some (.int .i64 4) ∧ w'.cell? ⟨F, 3, none⟩ = some (.int .i64 0) ∧ w'.cell? ⟨F, 4, none⟩ = some (.int .i64 2)) ∧ (w'.cell? ⟨B, 0, none⟩ = some (.int .i64 2) ∧ w'.cell? ⟨B, 1, none⟩ = some (.int .i64 2) ∧ w'.cell? ⟨B, 2, none⟩ = some (.int .i64 4) ∧ w'.cell? ⟨B, 3, none⟩ = some (.int .i64 0) ∧ w'.cell? ⟨B, 4, none⟩ = some (.int .i64 2)) ∧ (w'.cell? ⟨H, 0, none⟩ = some (.int .i64 t1) ∧ w'.cell? ⟨H, 1, none⟩ = some (.int .i64 l1) ∧ w'.cell? ⟨H, 2, none⟩ = some (.int .i64 s1) ∧ w'.cell? ⟨H, 3, none⟩ = some (.bool rd) ∧ w'.cell? ⟨H, 4, none⟩ = some (.int .i64 x1)) ∧ (w'.cell? ⟨g1, 0, none⟩ = some (.int .i64 t2) ∧ w'.cell? ⟨g1, 1, none⟩ = some (.int .i64 l2) ∧ w'.cell? ⟨g1, 2, none⟩ = some (.int .i64 s2) ∧ w'.cell? ⟨g1, 3, none⟩ = some (.bool true) ∧ w'.cell? ⟨g1, 4, none⟩ = some (.int .i64 x2)) ∧ (w'.cell? ⟨g2, 0, none⟩ = some (.int .i64 t2) ∧ w'.cell? ⟨g2, 1, none⟩ = some (.int .i64 l2) ∧ w'.cell? ⟨g2, 2, none⟩ = some (.int .i64 s2) ∧ w'.cell? ⟨g2, 3, none⟩ = some (.bool true) ∧ w'.cell? ⟨g2, 4, none⟩ = some (.int .i64 x2)))) (by kernel_rfl) (ak_keep5 hS) (fun hHeld => ?_)
            refine wpAnyH_ready (rs := [0]) (by kernel_rfl) (by simp) ?_
            refine AllReadyH.cons (by simp only [List.getElem?_toArray, List.getElem?_cons_succ, List.getElem?_cons_zero]; rfl) (fun kC hkC => ?_) AllReadyH.nil
            go_simp
            refine (told9_any _).mono ?_; rintro e x1' ⟨rfl, hkk⟩; have hS := hS.no hkk; clear hkk
            (try go_wp2_with fail)
            refine hkC.out _ _ (ak_keep5 hS) (fun hHeld => ?_)
            clear hkC kC
            try simp only [Act.put, List.setIfInBounds_toArray, List.set_cons_zero, List.set_cons_succ]
            refine wpAnyH_take (i := 1) (v := ?_) (by simp only [List.getElem?_toArray, List.getElem?_cons_succ, List.getElem?_cons_zero]; rfl) (by kernel_rfl) (by kernel_rfl) (by kernel_rfl) (by exact fun _ _ _ h => h) (Or.inl ⟨by rfl, ?_⟩) hHeld ?_
            rotate_left
            · intro w hSw; (try dsimp only at hSw); go_simp; (try with_reducible rfl)
            try simp only [Act.put, List.setIfInBounds_toArray, List.set_cons_zero, List.set_cons_succ]
            refine wpAnyH_take (i := 2) (v := ?_) (by simp only [List.getElem?_toArray, List.getElem?_cons_succ, List.getElem?_cons_zero]; rfl) (by kernel_rfl) (by kernel_rfl) (by kernel_rfl) (by exact fun _ _ _ h => h) (Or.inl ⟨by rfl, ?_⟩) hHeld ?_
            rotate_left
            · intro w hSw; (try dsimp only at hSw); go_simp; (try with_reducible rfl)
            try simp only [Act.put, List.setIfInBounds_toArray, List.set_cons_zero, List.set_cons_succ]
            refine wpAnyH_take (i := 3) (v := ?_) (by simp only [List.getElem?_toArray, List.getElem?_cons_succ, List.getElem?_cons_zero]; rfl) (by kernel_rfl) (by kernel_rfl) (by kernel_rfl) (by exact fun _ _ _ h => h) (Or.inl ⟨by rfl, ?_⟩) hHeld ?_
            rotate_left
            · intro w hSw; (try dsimp only at hSw); go_simp; (try with_reducible rfl)
            try simp only [Act.put, List.setIfInBounds_toArray, List.set_cons_zero, List.set_cons_succ]
            refine wpAnyH_take (i := 4) (v := ?_) (by simp only [List.getElem?_toArray, List.getElem?_cons_succ, List.getElem?_cons_zero]; rfl) (by kernel_rfl) (by kernel_rfl) (by kernel_rfl) (by exact fun _ _ _ h => h) (Or.inl ⟨by rfl, ?_⟩) hHeld ?_
            rotate_left
            · intro w hSw; (try dsimp only at hSw); go_simp; (try with_reducible rfl)
            try simp only [Act.put, List.setIfInBounds_toArray, List.set_cons_zero, List.set_cons_succ]
            refine wpAnyH_take (i := 5) (v := ?_) (by simp only [List.getElem?_toArray, List.getElem?_cons_succ, List.getElem?_cons_zero]; rfl) (by kernel_rfl) (by kernel_rfl) (by kernel_rfl) (by exact fun _ _ _ h => h) (Or.inl ⟨by rfl, ?_⟩) hHeld ?_
            rotate_left
            · intro w hSw; (try dsimp only at hSw); go_simp; (try with_reducible rfl)
            try simp only [Act.put, List.setIfInBounds_toArray, List.set_cons_zero, List.set_cons_succ]
            refine wpAnyH_take (i := 6) (v := ?_) (by simp only [List.getElem?_toArray, List.getElem?_cons_succ, List.getElem?_cons_zero]; rfl) (by kernel_rfl) (by kernel_rfl) (by kernel_rfl) (by exact fun _ _ _ h => h) (Or.inl ⟨by rfl, ?_⟩) hHeld ?_
            rotate_left
            · intro w hSw; (try dsimp only at hSw); go_simp; (try with_reducible rfl)
            try simp only [Act.put, List.setIfInBounds_toArray, List.set_cons_zero, List.set_cons_succ]
            refine wpAnyH_take (i := 7) (v := ?_) (by simp only [List.getElem?_toArray, List.getElem?_cons_succ, List.getElem?_cons_zero]; rfl) (by kernel_rfl) (by kernel_rfl) (by kernel_rfl) (by exact fun _ _ _ h => h) (Or.inl ⟨by rfl, ?_⟩) hHeld ?_
            rotate_left
            · intro w hSw; (try dsimp only at hSw); go_simp; (try with_reducible rfl)
            try simp only [Act.put, List.setIfInBounds_toArray, List.set_cons_zero, List.set_cons_succ]
            refine wpAnyH_take (i := 8) (v := ?_) (by simp only [List.getElem?_toArray, List.getElem?_cons_succ, List.getElem?_cons_zero]; rfl) (by kernel_rfl) (by kernel_rfl) (by kernel_rfl) (by exact fun _ _ _ h => h) (Or.inl ⟨by rfl, ?_⟩) hHeld ?_
            rotate_left
            · intro w hSw; (try dsimp only at hSw); go_simp; (try with_reducible rfl)
            try simp only [Act.put, List.setIfInBounds_toArray, List.set_cons_zero, List.set_cons_succ]
            refine wpAnyH_ready (rs := [9]) (by kernel_rfl) (by simp) ?_
            refine AllReadyH.cons (by simp only [List.getElem?_toArray, List.getElem?_cons_succ, List.getElem?_cons_zero]; rfl) (fun kC hkC => ?_) AllReadyH.nil
            go_simp
            refine (same_any a c v u M2 M2 _ hS.tw.s.m hS.tw.r.m rfl).mono ?_; rintro e x2' ⟨rfl, hkk⟩; have hS := hS.no hkk; clear hkk
            (try go_wp2_with fail)
            refine hkC.out _ _ (ak_keep5 hS) (fun hHeld => ?_)
            clear hkC kC
            try simp only [Act.put, List.setIfInBounds_toArray, List.set_cons_zero, List.set_cons_succ]
            refine wpAnyH_take (i := 10) (v := ?_) (by simp only [List.getElem?_toArray, List.getElem?_cons_succ, List.getElem?_cons_zero]; rfl) (by kernel_rfl) (by kernel_rfl) (by kernel_rfl) (by exact fun _ _ _ h => h) (Or.inl ⟨by rfl, ?_⟩) hHeld ?_
            rotate_left
            · intro w hSw; (try dsimp only at hSw); go_simp; (try with_reducible rfl)
            try simp only [Act.put, List.setIfInBounds_toArray, List.set_cons_zero, List.set_cons_succ]
            refine wpAnyH_take (i := 11) (v := ?_) (by simp only [List.getElem?_toArray, List.getElem?_cons_succ, List.getElem?_cons_zero]; rfl) (by kernel_rfl) (by kernel_rfl) (by kernel_rfl) (by exact fun _ _ _ h => h) (Or.inl ⟨by rfl, ?_⟩) hHeld ?_
            rotate_left
            · intro w hSw; (try dsimp only at hSw); go_simp; (try with_reducible rfl)
            try simp only [Act.put, List.setIfInBounds_toArray, List.set_cons_zero, List.set_cons_succ]
            refine wpAnyH_take (i := 12) (v := ?_) (by simp only [List.getElem?_toArray, List.getElem?_cons_succ, List.getElem?_cons_zero]; rfl) (by kernel_rfl) (by kernel_rfl) (by kernel_rfl) (by exact fun _ _ _ h => h) (Or.inl ⟨by rfl, ?_⟩) hHeld ?_
            rotate_left
            · intro w hSw; (try dsimp only at hSw); go_simp; (try with_reducible rfl)
            try simp only [Act.put, List.setIfInBounds_toArray, List.set_cons_zero, List.set_cons_succ]
            refine wpAnyH_take (i := 13) (v := ?_) (by simp only [List.getElem?_toArray, List.getElem?_cons_succ, List.getElem?_cons_zero]; rfl) (by kernel_rfl) (by kernel_rfl) (by kernel_rfl) (by exact fun _ _ _ h => h) (Or.inl ⟨by rfl, ?_⟩) hHeld ?_
            rotate_left
            · intro w hSw; (try dsimp only at hSw); go_simp; (try with_reducible rfl)
            try simp only [Act.put, List.setIfInBounds_toArray, List.set_cons_zero, List.set_cons_succ]
            refine wpAnyH_ready (rs := [14]) (by kernel_rfl) (by simp) ?_
            refine AllReadyH.cons (by simp only [List.getElem?_toArray, List.getElem?_cons_succ, List.getElem?_cons_zero]; rfl) (fun kC hkC => ?_) AllReadyH.nil
            go_simp
            refine (like_keep w _ a c v u M2 hS.tw).mono ?_; rintro e x3' ⟨rfl, _, hkk⟩; have hS := hS.no hkk; clear hkk
            (try go_wp2_with fail)
            refine hkC.out _ _ (ak_keep5 hS) (fun hHeld => ?_)
            clear hkC kC
            try simp only [Act.put, List.setIfInBounds_toArray, List.set_cons_zero, List.set_cons_succ]
            refine wpAnyH_take (i := 15) (v := ?_) (by simp only [List.getElem?_toArray, List.getElem?_cons_succ, List.getElem?_cons_zero]; rfl) (by kernel_rfl) (by kernel_rfl) (by kernel_rfl) (by exact fun _ _ _ h => h) (Or.inl ⟨by rfl, ?_⟩) hHeld ?_
            rotate_left
            · intro w hSw; (try dsimp only at hSw); go_simp; (try with_reducible rfl)
            try simp only [Act.put, List.setIfInBounds_toArray, List.set_cons_zero, List.set_cons_succ]
            refine wpAnyH_take (i := 16) (v := ?_) (by simp only [List.getElem?_toArray, List.getElem?_cons_succ, List.getElem?_cons_zero]; rfl) (by kernel_rfl) (by kernel_rfl) (by kernel_rfl) (by exact fun _ _ _ h => h) (Or.inl ⟨by rfl, ?_⟩) hHeld ?_
            rotate_left
            · intro w hSw; (try dsimp only at hSw); go_simp; (try with_reducible rfl)
            try simp only [Act.put, List.setIfInBounds_toArray, List.set_cons_zero, List.set_cons_succ]
            refine wpAnyH_take (i := 17) (v := ?_) (by simp only [List.getElem?_toArray, List.getElem?_cons_succ, List.getElem?_cons_zero]; rfl) (by kernel_rfl) (by kernel_rfl) (by kernel_rfl) (by exact fun _ _ _ h => h) (Or.inl ⟨by rfl, ?_⟩) hHeld ?_
            rotate_left
            · intro w hSw; (try dsimp only at hSw); go_simp; (try with_reducible rfl)
            try simp only [Act.put, List.setIfInBounds_toArray, List.set_cons_zero, List.set_cons_succ]
            refine wpAnyH_take (i := 18) (v := ?_) (by simp only [List.getElem?_toArray, List.getElem?_cons_succ, List.getElem?_cons_zero]; rfl) (by kernel_rfl) (by kernel_rfl) (by kernel_rfl) (by exact fun _ _ _ h => h) (Or.inl ⟨by rfl, ?_⟩) hHeld ?_
            rotate_left
            · intro w hSw; (try dsimp only at hSw); go_simp; (try with_reducible rfl)
            try simp only [Act.put, List.setIfInBounds_toArray, List.set_cons_zero, List.set_cons_succ]
            refine wpAnyH_take (i := 19) (v := ?_) (by simp only [List.getElem?_toArray, List.getElem?_cons_succ, List.getElem?_cons_zero]; rfl) (by kernel_rfl) (by kernel_rfl) (by kernel_rfl) (by exact fun _ _ _ h => h) (Or.inl ⟨by rfl, ?_⟩) hHeld ?_
            rotate_left
            · intro w hSw; (try dsimp only at hSw); go_simp; (try with_reducible rfl)
            try simp only [Act.put, List.setIfInBounds_toArray, List.set_cons_zero, List.set_cons_succ]
            refine wpAnyH_take (i := 20) (v := ?_) (by simp only [List.getElem?_toArray, List.getElem?_cons_succ, List.getElem?_cons_zero]; rfl) (by kernel_rfl) (by kernel_rfl) (by kernel_rfl) (by exact fun _ _ _ h => h) (Or.inl ⟨by rfl, ?_⟩) hHeld ?_
            rotate_left
            · intro w hSw; (try dsimp only at hSw); go_simp; (try with_reducible rfl)
            try simp only [Act.put, List.setIfInBounds_toArray, List.set_cons_zero, List.set_cons_succ]
            refine wpAnyH_take (i := 21) (v := ?_) (by simp only [List.getElem?_toArray, List.getElem?_cons_succ, List.getElem?_cons_zero]; rfl) (by kernel_rfl) (by kernel_rfl) (by kernel_rfl) (by exact fun _ _ _ h => h) (Or.inl ⟨by rfl, ?_⟩) hHeld ?_
            rotate_left
            · intro w hSw; (try dsimp only at hSw); go_simp; (try with_reducible rfl)
            try simp only [Act.put, List.setIfInBounds_toArray, List.set_cons_zero, List.set_cons_succ]
            refine wpAnyH_take (i := 23) (v := ?_) (by simp only [List.getElem?_toArray, List.getElem?_cons_succ, List.getElem?_cons_zero]; rfl) (by kernel_rfl) (by kernel_rfl) (by kernel_rfl) (by exact fun _ _ _ h => h) (Or.inl ⟨by rfl, ?_⟩) hHeld ?_
            rotate_left
            · intro w hSw; (try dsimp only at hSw); go_simp; (try with_reducible rfl)
            try simp only [Act.put, List.setIfInBounds_toArray, List.set_cons_zero, List.set_cons_succ]
            refine wpAnyH_take (i := 24) (v := ?_) (by simp only [List.getElem?_toArray, List.getElem?_cons_succ, List.getElem?_cons_zero]; rfl) (by kernel_rfl) (by kernel_rfl) (by kernel_rfl) (by exact fun _ _ _ h => h) (Or.inl ⟨by rfl, ?_⟩) hHeld ?_
            rotate_left
            · intro w hSw; (try dsimp only at hSw); go_simp; (try with_reducible rfl)
            try simp only [Act.put, List.setIfInBounds_toArray, List.set_cons_zero, List.set_cons_succ]
            refine wpAnyH_take (i := 25) (v := ?_) (by simp only [List.getElem?_toArray, List.getElem?_cons_succ, List.getElem?_cons_zero]; rfl) (by kernel_rfl) (by kernel_rfl) (by kernel_rfl) (by exact fun _ _ _ h => h) (Or.inl ⟨by rfl, ?_⟩) hHeld ?_
            rotate_left
            · intro w hSw; (try dsimp only at hSw); go_simp; (try with_reducible rfl)
            try simp only [Act.put, List.setIfInBounds_toArray, List.set_cons_zero, List.set_cons_succ]
            refine wpAnyH_take (i := 26) (v := ?_) (by simp only [List.getElem?_toArray, List.getElem?_cons_succ, List.getElem?_cons_zero]; rfl) (by kernel_rfl) (by kernel_rfl) (by kernel_rfl) (by exact fun _ _ _ h => h) (Or.inl ⟨by rfl, ?_⟩) hHeld ?_
            rotate_left
            · intro w hSw; (try dsimp only at hSw); go_simp; (try with_reducible rfl)
            try simp only [Act.put, List.setIfInBounds_toArray, List.set_cons_zero, List.set_cons_succ]
            refine wpAnyH_take (i := 27) (v := ?_) (by simp only [List.getElem?_toArray, List.getElem?_cons_succ, List.getElem?_cons_zero]; rfl) (by kernel_rfl) (by kernel_rfl) (by kernel_rfl) (by exact fun _ _ _ h => h) (Or.inl ⟨by rfl, ?_⟩) hHeld ?_
            rotate_left
            · intro w hSw; (try dsimp only at hSw); go_simp; (try with_reducible rfl)
            try simp only [Act.put, List.setIfInBounds_toArray, List.set_cons_zero, List.set_cons_succ]
            refine wpAnyH_ready (rs := [22]) (by kernel_rfl) (by simp) ?_
            refine AllReadyH.cons (by simp only [List.getElem?_toArray, List.getElem?_cons_succ, List.getElem?_cons_zero]; rfl) (fun kC hkC => ?_) AllReadyH.nil
            go_simp
            refine (id_any 2 2 4 0 2 t1 l1 _).mono ?_; rw [HID.out]; rintro e x4' ⟨rfl, hkk⟩; have hS := hS.no hkk; clear hkk
            (try go_wp2_with fail)
            refine hkC.out _ _ (ak_keep5 hS) (fun hHeld => ?_)
            clear hkC kC
            try simp only [Act.put, List.setIfInBounds_toArray, List.set_cons_zero, List.set_cons_succ]
            refine wpAnyH_ready (rs := [28]) (by kernel_rfl) (by simp) ?_
            refine AllReadyH.cons (by simp only [List.getElem?_toArray, List.getElem?_cons_succ, List.getElem?_cons_zero]; rfl) (fun kC hkC => ?_) AllReadyH.nil
            go_simp
            refine (rid_any t1 l1 _).mono ?_; rw [HID.out]; rintro e x5' ⟨rfl, hkk⟩; have hS := hS.no hkk; clear hkk
            (try go_wp2_with fail)
            refine hkC.out _ _ (ak_keep5 hS) (fun hHeld => ?_)
            clear hkC kC
            try simp only [Act.put, List.setIfInBounds_toArray, List.set_cons_zero, List.set_cons_succ]
            refine wpAnyH_take (i := 29) (v := ?_) (by simp only [List.getElem?_toArray, List.getElem?_cons_succ, List.getElem?_cons_zero]; rfl) (by kernel_rfl) (by kernel_rfl) (by kernel_rfl) (by exact fun _ _ _ h => h) (Or.inl ⟨by rfl, ?_⟩) hHeld ?_
            rotate_left
            · intro w hSw; (try dsimp only at hSw); go_simp; (try with_reducible rfl)
            try simp only [Act.put, List.setIfInBounds_toArray, List.set_cons_zero, List.set_cons_succ]
            refine wpAnyH_take (i := 30) (v := ?_) (by simp only [List.getElem?_toArray, List.getElem?_cons_succ, List.getElem?_cons_zero]; rfl) (by kernel_rfl) (by kernel_rfl) (by kernel_rfl) (by exact fun _ _ _ h => h) (Or.inl ⟨by rfl, ?_⟩) hHeld ?_
            rotate_left
            · intro w hSw; (try dsimp only at hSw); go_simp; (try with_reducible rfl)
            try simp only [Act.put, List.setIfInBounds_toArray, List.set_cons_zero, List.set_cons_succ]
            refine wpAnyH_take (i := 31) (v := ?_) (by simp only [List.getElem?_toArray, List.getElem?_cons_succ, List.getElem?_cons_zero]; rfl) (by kernel_rfl) (by kernel_rfl) (by kernel_rfl) (by exact fun _ _ _ h => h) (Or.inl ⟨by rfl, ?_⟩) hHeld ?_
            rotate_left
            · intro w hSw; (try dsimp only at hSw); go_simp; (try with_reducible rfl)
            try simp only [Act.put, List.setIfInBounds_toArray, List.set_cons_zero, List.set_cons_succ]
            refine wpAnyH_take (i := 32) (v := ?_) (by simp only [List.getElem?_toArray, List.getElem?_cons_succ, List.getElem?_cons_zero]; rfl) (by kernel_rfl) (by kernel_rfl) (by kernel_rfl) (by exact fun _ _ _ h => h) (Or.inl ⟨by rfl, ?_⟩) hHeld ?_
            rotate_left
            · intro w hSw; (try dsimp only at hSw); go_simp; (try with_reducible rfl)
            try simp only [Act.put, List.setIfInBounds_toArray, List.set_cons_zero, List.set_cons_succ]
            refine wpAnyH_take (i := 33) (v := ?_) (by simp only [List.getElem?_toArray, List.getElem?_cons_succ, List.getElem?_cons_zero]; rfl) (by kernel_rfl) (by kernel_rfl) (by kernel_rfl) (by exact fun _ _ _ h => h) (Or.inl ⟨by rfl, ?_⟩) hHeld ?_
            rotate_left
            · intro w hSw; (try dsimp only at hSw); go_simp; (try with_reducible rfl)
            try simp only [Act.put, List.setIfInBounds_toArray, List.set_cons_zero, List.set_cons_succ]
            refine wpAnyH_take (i := 34) (v := ?_) (by simp only [List.getElem?_toArray, List.getElem?_cons_succ, List.getElem?_cons_zero]; rfl) (by kernel_rfl) (by kernel_rfl) (by kernel_rfl) (by exact fun _ _ _ h => h) (Or.inl ⟨by rfl, ?_⟩) hHeld ?_
            rotate_left
            · intro w hSw; (try dsimp only at hSw); go_simp; (try with_reducible rfl)
            try simp only [Act.put, List.setIfInBounds_toArray, List.set_cons_zero, List.set_cons_succ]
            refine wpAnyH_take (i := 35) (v := ?_) (by simp only [List.getElem?_toArray, List.getElem?_cons_succ, List.getElem?_cons_zero]; rfl) (by kernel_rfl) (by kernel_rfl) (by kernel_rfl) (by exact fun _ _ _ h => h) (Or.inl ⟨by rfl, ?_⟩) hHeld ?_
            rotate_left
            · intro w hSw; (try dsimp only at hSw); go_simp; (try with_reducible rfl)
            try simp only [Act.put, List.setIfInBounds_toArray, List.set_cons_zero, List.set_cons_succ]
            refine wpAnyH_take (i := 37) (v := ?_) (by simp only [List.getElem?_toArray, List.getElem?_cons_succ, List.getElem?_cons_zero]; rfl) (by kernel_rfl) (by kernel_rfl) (by kernel_rfl) (by exact fun _ _ _ h => h) (Or.inl ⟨by rfl, ?_⟩) hHeld ?_
            rotate_left
            · intro w hSw; (try dsimp only at hSw); go_simp; (try with_reducible rfl)
            try simp only [Act.put, List.setIfInBounds_toArray, List.set_cons_zero, List.set_cons_succ]
            refine wpAnyH_take (i := 38) (v := ?_) (by simp only [List.getElem?_toArray, List.getElem?_cons_succ, List.getElem?_cons_zero]; rfl) (by kernel_rfl) (by kernel_rfl) (by kernel_rfl) (by exact fun _ _ _ h => h) (Or.inl ⟨by rfl, ?_⟩) hHeld ?_
            rotate_left
            · intro w hSw; (try dsimp only at hSw); go_simp; (try with_reducible rfl)
            try simp only [Act.put, List.setIfInBounds_toArray, List.set_cons_zero, List.set_cons_succ]
            refine wpAnyH_take (i := 39) (v := ?_) (by simp only [List.getElem?_toArray, List.getElem?_cons_succ, List.getElem?_cons_zero]; rfl) (by kernel_rfl) (by kernel_rfl) (by kernel_rfl) (by exact fun _ _ _ h => h) (Or.inl ⟨by rfl, ?_⟩) hHeld ?_
            rotate_left
            · intro w hSw; (try dsimp only at hSw); go_simp; (try with_reducible rfl)
            try simp only [Act.put, List.setIfInBounds_toArray, List.set_cons_zero, List.set_cons_succ]
            refine wpAnyH_take (i := 40) (v := ?_) (by simp only [List.getElem?_toArray, List.getElem?_cons_succ, List.getElem?_cons_zero]; rfl) (by kernel_rfl) (by kernel_rfl) (by kernel_rfl) (by exact fun _ _ _ h => h) (Or.inl ⟨by rfl, ?_⟩) hHeld ?_
            rotate_left
            · intro w hSw; (try dsimp only at hSw); go_simp; (try with_reducible rfl)
            try simp only [Act.put, List.setIfInBounds_toArray, List.set_cons_zero, List.set_cons_succ]
            refine wpAnyH_ready (rs := [36]) (by kernel_rfl) (by simp) ?_
            refine AllReadyH.cons (by simp only [List.getElem?_toArray, List.getElem?_cons_succ, List.getElem?_cons_zero]; rfl) (fun kC hkC => ?_) AllReadyH.nil
            go_simp
            refine (last8_any l1 a v M2 _ hS.tw.s.m HL2.out).mono ?_; rw [HLA.out]; rintro e x6' ⟨rfl, hkk⟩; have hS := hS.no hkk; clear hkk
            (try go_wp2_with fail)
            refine hkC.out _ _ (ak_keep5 hS) (fun hHeld => ?_)
            clear hkC kC
            try simp only [Act.put, List.setIfInBounds_toArray, List.set_cons_zero, List.set_cons_succ]
            refine wpAnyH_ready (rs := [41]) (by kernel_rfl) (by simp) ?_
            refine AllReadyH.cons (by simp only [List.getElem?_toArray, List.getElem?_cons_succ, List.getElem?_cons_zero]; rfl) (fun kC hkC => ?_) AllReadyH.nil
            go_simp
            refine (rlast8_any l1 c u M2 _ hS.tw.r.m HL2.out).mono ?_; rw [HLA.out]; rintro e x7' ⟨rfl, hkk⟩; have hS := hS.no hkk; clear hkk
            (try go_wp2_with fail)
            refine hkC.out _ _ (ak_keep5 hS) (fun hHeld => ?_)
            clear hkC kC
            try simp only [Act.put, List.setIfInBounds_toArray, List.set_cons_zero, List.set_cons_succ]
            refine wpAnyH_take (i := 42) (v := ?_) (by simp only [List.getElem?_toArray, List.getElem?_cons_succ, List.getElem?_cons_zero]; rfl) (by kernel_rfl) (by kernel_rfl) (by kernel_rfl) (by exact fun _ _ _ h => h) (Or.inl ⟨by rfl, ?_⟩) hHeld ?_
            rotate_left
            · intro w hSw; (try dsimp only at hSw); go_simp; (try with_reducible rfl)
            try simp only [Act.put, List.setIfInBounds_toArray, List.set_cons_zero, List.set_cons_succ]
            refine wpAnyH_take (i := 43) (v := ?_) (by simp only [List.getElem?_toArray, List.getElem?_cons_succ, List.getElem?_cons_zero]; rfl) (by kernel_rfl) (by kernel_rfl) (by kernel_rfl) (by exact fun _ _ _ h => h) (Or.inl ⟨by rfl, ?_⟩) hHeld ?_
            rotate_left
            · intro w hSw; (try dsimp only at hSw); go_simp; (try with_reducible rfl)
            try simp only [Act.put, List.setIfInBounds_toArray, List.set_cons_zero, List.set_cons_succ]
            refine wpAnyH_take (i := 44) (v := ?_) (by simp only [List.getElem?_toArray, List.getElem?_cons_succ, List.getElem?_cons_zero]; rfl) (by kernel_rfl) (by kernel_rfl) (by kernel_rfl) (by exact fun _ _ _ h => h) (Or.inl ⟨by rfl, ?_⟩) hHeld ?_
            rotate_left
            · intro w hSw; (try dsimp only at hSw); go_simp; (try with_reducible rfl)
            try simp only [Act.put, List.setIfInBounds_toArray, List.set_cons_zero, List.set_cons_succ]
            refine wpAnyH_done (by kernel_rfl) ?_ _
            go_wp2_with fail
            go_ret
            exact ⟨by simp, hS.bg.kp⟩
end Go.Proofs.Ytchgfdfdkcijnaa
