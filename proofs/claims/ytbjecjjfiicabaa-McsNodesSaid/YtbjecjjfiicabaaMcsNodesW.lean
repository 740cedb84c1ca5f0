/- Each thread has for each lock a node of its own (the walk). -/
import Derived.Test.YtbjecjjfiicabaaMcsTold
import Derived.Test.YtbjecjjfiicabaaNear
import Derived.Test.YtbjecjjfiicabaaMapI
namespace Go.Proofs.Ytbjecjjfiicabaa
open Go.RowKit
theorem idP_in {ms ml mt mc md : Int} (hm : May ⟨ms, ml, mt, mc, md⟩) {t l : Int} (t0 : 0 ≤ t) (t1 : t < mt) (l0 : 0 ≤ l) (l1 : l < ml) : idP ⟨ms, ml, mt, mc, md⟩ t l = 1 + t * ml + l := by
  unfold idP
  have h : ¬ nodeP ⟨ms, ml, mt, mc, md⟩ t l 0 < 0 := by
    unfold nodeP
    rw [of_may hm, inB_of t0 t1, inB_of l0 l1, inB_of (by decide) (by decide)]
    simp only [Bool.and_self, if_true]
    have h3 := starts_bd hm
    have h4 := Int.mul_nonneg t0 (by omega : 0 ≤ ml)
    omega
  rw [if_neg h]
theorem idP_out {m : MapS} {t l : Int} (h : ¬ (0 ≤ t ∧ t < m.t ∧ 0 ≤ l ∧ l < m.l)) : idP m t l = 0 := by
  unfold idP
  rw [if_pos]
  unfold nodeP
  by_cases ht : 0 ≤ t ∧ t < m.t
  · rw [inB_not (i := l) (n := m.l) (fun hl => h ⟨ht.1, ht.2, hl.1, hl.2⟩)]; simp
  · rw [inB_not (i := t) (n := m.t) ht]; simp
theorem zeroN (w : World) : (zeroValue 3).run Try.prog w = .ok (.int .i64 0) w := by kernel_rfl
theorem wf_sm {x : Int} (h : -1000000 ≤ x) (h' : x ≤ 1000000) : (Lit.int .i64 x).wf = true := WalkArith.wf_i64 (by omega)
/-- what the loops have at hand: the map of places, the map of numbers: above q nothing is there -/
structure NdS (w wr : World) (B bm : Nat) (ms ml mt mc md : Int) (n : Nat) (q : Int) (f : Int → Int) : Prop where
  kp : Keeps NoS w wr
  mp : MapAt wr B ms ml mt mc md
  mi : MapI Try.prog 2 3 wr bm n f
  nb : w.heap.size ≤ bm
  ne : B ≠ bm
  up : ∀ j, q < j → f j = 0
section
variable {w wr w' : World} {B bm n : Nat} {ms ml mt mc md q : Int} {f : Int → Int}
theorem NdS.no (h : NdS w wr B bm ms ml mt mc md n q f) (k : Keeps NoS wr w') : NdS w w' B bm ms ml mt mc md n q f :=
  ⟨h.kp.trans k, h.mp.keep k (fun f => f), h.mi.keep k, h.nb, h.ne, h.up⟩
theorem NdS.put {x y q' : Int} (h : NdS w wr B bm ms ml mt mc md n q f) (hm : MapI Try.prog 2 3 w' bm (n + 1) (fun j => if j = x then y else f j)) (hg : wr.grownBy w' (some bm)) (hx : x ≤ q') (hq : q ≤ q') : NdS w w' B bm ms ml mt mc md (n + 1) q' (fun j => if j = x then y else f j) := by
  have hk : Keeps (fun i => i = bm) wr w' := ⟨hg.os, hg.tape, hg.output, hg.size, fun i hi hs => hg.block i hi (fun e => hs (by simpa using e))⟩
  refine ⟨h.kp.trans' hk (fun i hi e => by have := h.nb; omega), h.mp.keep hk h.ne, hm, h.nb, h.ne, fun j hj => ?_⟩
  show (if j = x then y else f j) = 0
  rw [if_neg (by omega)]
  exact h.up j (by omega)
end
set_option maxHeartbeats 40000000 in
set_option maxRecDepth 100000 in
theorem mcsNodes_walk (w : World) (K : List Int) (hK : K.length = 5) (_f0 : ∀ k, k < K.length → (Lit.int .i64 (K.getD k 0)).wf = true) : Calls Try.prog 3 #[.agg (nums K)] w fun e w' => e = .returned (.bool true) ∧ Keeps NoS w w' := by
  obtain ⟨k0, k1, k2, k3, k4, rfl⟩ := list5 hK
  clear hK _f0
  show Calls Try.prog 3 #[.agg #[.int .i64 k0, .int .i64 k1, .int .i64 k2, .int .i64 k3, .int .i64 k4]] w _
  have hmay := nearM_may [k0, k1, k2, k3, k4]
  obtain ⟨⟨ms, ml, mt, mc, md⟩, hm⟩ : ∃ m, nearM [k0, k1, k2, k3, k4] = m := ⟨_, rfl⟩
  rw [hm] at hmay
  have HM := Lib.hid hm; have HMAY := Lib.hid hmay
  obtain ⟨_, _, l0, l4, t1, t4, _, _, _, _⟩ := hmay
  dsimp only at l0 l4 t1 t4
  clear hm
  have hmm := @run_makeMap Try.prog
  have hk0 : Keeps NoS w (w.alloc (.cells #[.int .i64 k0, .int .i64 k1, .int .i64 k2, .int .i64 k3, .int .i64 k4] 22)) := (Keeps.refl NoS w).alloc _
  have HK0 := Lib.hid hk0
  clear hk0
  go_enter Try.func3, Try.ntmps3
  go_wp2_with fail
  refine (nearm_lit k0 k1 k2 k3 k4 _ HM.out _).mono ?_
  rintro e w1 ⟨rfl, hk1⟩
  unfold mapV
  dsimp only
  have hmA := mapAt_new w1 ms ml mt mc md 24
  have hk2 := (HK0.out.trans hk1).alloc (.cells #[.int .i64 ms, .int .i64 ml, .int .i64 mt, .int .i64 mc, .int .i64 md] 24)
  have hs2 : (w1.alloc (.cells #[.int .i64 ms, .int .i64 ml, .int .i64 mt, .int .i64 mc, .int .i64 md] 24)).heap.size = w1.heap.size + 1 := by simp
  have hmade := MapI.made Try.prog 2 3 (w1.alloc (.cells #[.int .i64 ms, .int .i64 ml, .int .i64 mt, .int .i64 mc, .int .i64 md] 24))
  rw [hs2] at hmade
  have h0 : NdS w ((w1.alloc (.cells #[.int .i64 ms, .int .i64 ml, .int .i64 mt, .int .i64 mc, .int .i64 md] 24)).alloc (.map #[] 0)) w1.heap.size (w1.heap.size + 1) ms ml mt mc md 0 0 (fun _ => 0) :=
    ⟨hk2.alloc _, hmA.keep ((Keeps.refl NoS _).alloc _) (fun f => f), hmade, by have := (HK0.out.trans hk1).size; omega, by omega, fun _ _ => rfl⟩
  have H0 := Lib.hid h0
  clear hmA hk2 hs2 hmade h0 hk1
  go_wp2_with fail
  obtain ⟨B, hB⟩ : ∃ B, w1.heap.size = B := ⟨_, rfl⟩
  rw [hB] at H0
  (try rw [hB])
  clear hB hmm
  obtain ⟨bm, hbm⟩ : ∃ bm, B + 1 = bm := ⟨_, rfl⟩
  rw [hbm] at H0
  (try rw [hbm])
  clear hbm
  generalize (w1.alloc (.cells #[.int .i64 ms, .int .i64 ml, .int .i64 mt, .int .i64 mc, .int .i64 md] 24)).alloc (.map #[] 0) = W0 at *
  go_loopw [5] (fun tv wr => ∃ (t n : Nat) (f : Int → Int), (t : Int) ≤ mt ∧ tv = .int .i64 t ∧ n ≤ 100 ∧ n ≤ 8 * t ∧ NdS w wr B bm ms ml mt mc md n (t * ml) f) (fun tv _ => (mt - intOf tv).toNat)
  case atStart => exact ⟨0, 0, _, by omega, rfl, by omega, by omega, by simpa using H0.out⟩
  case round =>
    obtain ⟨t, n, f, ht, rfl, hn, hnt, hS⟩ := hrel
    have HS := Lib.hid hS
    obtain ⟨c0, c1, c2, c3, c4⟩ := hS.mp
    clear hS H0
    by_cases hlt : (t : Int) < mt
    · have q0 : (0 : Int) ≤ (t : Int) := by omega
      go_wp2_with fail
      go_loopw [6] (fun lv wq => ∃ (l n' : Nat) (g : Int → Int), (l : Int) ≤ ml ∧ lv = .int .i64 l ∧ n' ≤ 8 * t + l ∧ NdS w wq B bm ms ml mt mc md n' (t * ml + l) g) (fun lv _ => (ml - intOf lv).toNat)
      case atStart => exact ⟨0, n, f, by omega, rfl, by omega, by simpa using HS.out⟩
      case round =>
        obtain ⟨l, n', g, hl, rfl, hn', hR⟩ := hrel
        have HR := Lib.hid hR
        clear hR HS c0 c1 c2 c3 c4
        obtain ⟨c0, c1, c2, c3, c4⟩ := HR.out.mp
        by_cases hll : (l : Int) < ml
        · have r0 : (0 : Int) ≤ (l : Int) := by omega
          have hid : idP ⟨ms, ml, mt, mc, md⟩ t l = 1 + t * ml + l := idP_in HMAY.out q0 hlt r0 hll
          have hp0 : 0 ≤ (t : Int) * ml := Int.mul_nonneg q0 l0
          have hp1 : (t : Int) * ml + ml ≤ mt * ml := by
            have h := Int.mul_le_mul_of_nonneg_right (show (t : Int) + 1 ≤ mt by omega) l0
            rw [Int.add_mul] at h; omega
          have hp2 : mt * ml ≤ 16 := by
            have h := Int.mul_le_mul t4 l4 l0 (by decide); omega
          obtain ⟨x, hx⟩ : ∃ x, 1 + (t : Int) * ml + l = x := ⟨_, rfl⟩
          rw [hx] at hid
          have HID := Lib.hid hid
          have hup := HR.out.up x (by omega)
          have d1 : decide (x < 1) = false := decide_eq_false (by omega)
          have d2 : decide (mt * ml < x) = false := decide_eq_false (by omega)
          have hxw : (Lit.int .i64 x).wf = true := wf_sm (by omega) (by omega)
          have HX := Lib.hid hx; have HUP := Lib.hid hup; have HXW := Lib.hid hxw
          have hp3 : 0 ≤ mt * ml := by omega
          have HLK := Lib.hid (fun (w' : World) (k : Keeps NoS wr w') => by
            have h := (HR.out.mi.keep k).look Try.underlying2 Try.underlying3 Try.underlying26 (zeroN _) x HXW.out
            rw [HUP.out] at h
            exact h)
          have q00 : (0 : Int) ≤ x := by omega
          have q16 : x ≤ 16 := by omega
          clear hx hup hxw hid hp0 hp1
          go_wp2_with (first
            | (go_at_call 13; refine (id_any ms ml mt mc md t l _).mono ?_; rw [HID.out]; rintro e w3 ⟨rfl, hk3⟩; have HR3 := Lib.hid (HR.out.no hk3); obtain ⟨e0, e1, e2, e3, e4⟩ := HR3.out.mp; have hlk := HLK.out _ hk3)
            | (at_mapUpdate; refine wpList_put_mapI _ rfl _ _ _ 26 rfl 2 3 Try.underlying2 Try.underlying3 Try.underlying26 bm n' g rfl HR3.out.mi (by unfold maxLen; omega) x 1 rfl rfl HXW.out (by decide) ?_; intro w5 hm5 hg5; have HR5 := Lib.hid (HR3.out.put hm5 hg5 (q' := t * ml + (l + 1)) (by have := HX.out; omega) (by omega)); clear hm5 hg5))
          go_roundw
          case rel => exact ⟨l + 1, n' + 1, _, by omega, by go_num, by omega, HR5.out⟩
          case measure => simp [intOf]; omega
        · have hle : (l : Int) = ml := by omega
          have HLE := Lib.hid hle
          have hnn : n' ≤ 8 * (t + 1) := by omega
          have hn4 : n' ≤ 100 := by omega
          clear hle
          go_wp2_with fail
          go_roundw
          case rel => exact ⟨t + 1, n', g, by omega, by go_num, hn4, hnn, by have h := HR.out; rw [HLE.out] at h; rw [show (((t + 1 : Nat) : Int)) * ml = t * ml + ml by rw [Int.natCast_add, Int.add_mul]; omega]; exact h⟩
          case measure => simp [intOf]; omega
    · have HMT := Lib.hid (show idP ⟨ms, ml, mt, mc, md⟩ mt 0 = 0 from idP_out (fun h => by have := h.2.1; dsimp only at this; omega))
      have HML := Lib.hid (show idP ⟨ms, ml, mt, mc, md⟩ 0 ml = 0 from idP_out (fun h => by have := h.2.2.2; dsimp only at this; omega))
      have HMN := Lib.hid (show idP ⟨ms, ml, mt, mc, md⟩ (-1) 0 = 0 from idP_out (fun h => by have := h.1; omega))
      go_wp2_with (first
        | (go_at_call 14; refine (told9_any _).mono ?_; rintro e w3 ⟨rfl, hk3⟩; have H3 := Lib.hid (HS.out.no hk3); obtain ⟨d0, d1, d2, d3, d4⟩ := H3.out.mp)
        | (go_at_call 13; (with_reducible refine (id_any ms ml mt mc md (-1) 0 _).mono ?_); rw [HMN.out]; rintro e w4 ⟨rfl, hk4⟩; have H4 := Lib.hid (H3.out.no hk4); obtain ⟨e0, e1, e2, e3, e4⟩ := H4.out.mp)
        | (go_at_call 13; (with_reducible refine (id_any ms ml mt mc md 0 ml _).mono ?_); rw [HML.out]; rintro e w5 ⟨rfl, hk5⟩; have H5 := Lib.hid (H4.out.no hk5); obtain ⟨j0, j1, j2, j3, j4⟩ := H5.out.mp)
        | (go_at_call 13; (with_reducible refine (id_any ms ml mt mc md mt 0 _).mono ?_); rw [HMT.out]; rintro e w6 ⟨rfl, hk6⟩; have H6 := Lib.hid (H5.out.no hk6)))
      go_ret
      exact ⟨rfl, H6.out.kp⟩
end Go.Proofs.Ytbjecjjfiicabaa
