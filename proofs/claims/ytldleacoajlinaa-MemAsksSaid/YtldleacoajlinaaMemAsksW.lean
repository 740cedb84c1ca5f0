/- The walk of MemAsks. -/
import Derived.Test.YtldleacoajlinaaMemTot
import Derived.Test.YtldleacoajlinaaIn2
import Derived.Deep.DeepCutAuto
import Derived.Deep.RegionHeld3
import Derived.Test.YtldleacoajlinaaRegion
namespace Go.Proofs.Ytldleacoajlinaa
open Go.RowKit
theorem near_ex (at_ n : Int) (hn : 0 ≤ n) (hn' : n ≤ 4096) : ∃ z : Int, ∀ w, Calls Try.prog 73 #[.int .i64 at_, .int .i64 n] w fun e w' => e = .returned (.int .i64 z) ∧ w' = w := by
  have h0 : 0 ≤ IntKind.u64.wrap at_ := by rw [IntKind.wrap_u64]; omega
  have h0' : IntKind.u64.wrap at_ < 18446744073709551616 := by rw [IntKind.wrap_u64]; omega
  by_cases hz : n = 0
  · refine ⟨at_, fun w => ?_⟩
    subst hz
    go_enter Try.func73, Try.ntmps73
    go_wp2
    go_ret
    exact ⟨rfl, rfl⟩
  · have hz' : (n == 0) = false := beq_eq_false_iff_ne.2 hz
    obtain ⟨q1, q2⟩ := u64_tmod_bd at_ 16 (by decide)
    obtain ⟨r, hr⟩ : ∃ r : Nat, (IntKind.u64.wrap at_).tmod 16 = (r : Int) := Int.eq_ofNat_of_zero_le q1
    by_cases hr0 : r = 0
    · subst hr0
      refine ⟨at_, fun w => ?_⟩
      go_enter Try.func73, Try.ntmps73
      go_wp2
      go_ret
      exact ⟨rfl, rfl⟩
    · by_cases hr1 : r = 1
      · subst hr1
        refine ⟨n, fun w => ?_⟩
        go_enter Try.func73, Try.ntmps73
        go_wp2
        go_ret
        exact ⟨rfl, rfl⟩
      · by_cases hr2 : r = 2
        · subst hr2
          refine ⟨-1, fun w => ?_⟩
          go_enter Try.func73, Try.ntmps73
          go_wp2
          go_ret
          exact ⟨rfl, rfl⟩
        · have t0 : ((r : Int) == 0) = false := beq_eq_false_iff_ne.2 (by omega)
          have t1 : ((r : Int) == 1) = false := beq_eq_false_iff_ne.2 (by omega)
          have t2 : ((r : Int) == 2) = false := beq_eq_false_iff_ne.2 (by omega)
          obtain ⟨y, hy⟩ : ∃ y, IntKind.u64.wrap at_ = y := ⟨_, rfl⟩
          have hd1 : 0 ≤ y / 16 := by omega
          have hd2 : y / 16 ≤ 1152921504606846976 := by omega
          rw [hy] at hr h0 h0'
          clear q1 q2
          refine ⟨(y / 16) % n, fun w => ?_⟩
          go_enter Try.func73, Try.ntmps73
          go_wp2
          go_ret
          exact ⟨rfl, rfl⟩
abbrev TwoR := TwoT 97 90
/-- Do ends so -/
def DoEnds (w : World) (a c : Nat) (v u : Value) (n : Nat) (e : Ending) (w' : World) : Prop := e = .returned (.bool true) ∧ ∃ M' : MemS, M'.L.length = n ∧ TwoR w w' a c v u M' M'
theorem not_own {a b : Nat} {v : Value} (h1 : b ≠ a) (h2 : v.ownBlock ≠ some b) : ¬ own2m a v b := by
  rintro (e | e)
  · exact h1 e
  · exact h2 e
set_option maxHeartbeats 2000000 in
set_option maxRecDepth 100000 in
theorem do_any (w wr : World) (a c : Nat) (v u : Value) (M : MemS) (hT : TwoR w wr a c v u M M) (kd at_ A B : Int) (hsm : M.L.length ≤ 4096) :
    Calls Try.prog 66 #[.pointer (some ⟨a, 0, none⟩), .pointer (some ⟨c, 0, none⟩), .agg #[.int .i64 kd, .int .i64 at_, .int .i64 A, .int .i64 B]] wr (DoEnds w a c v u M.L.length) := by
  obtain ⟨z, hz⟩ := near_ex at_ (M.L.length : Int) (by omega) (by omega)
  have HZ := Lib.hid hz
  obtain ⟨q1, q2⟩ := u64_tmod_bd kd 5 (by decide)
  obtain ⟨r, hr⟩ : ∃ r : Nat, (IntKind.u64.wrap kd).tmod 5 = (r : Int) := Int.eq_ofNat_of_zero_le q1
  have TJ := Lib.hid (fun (j : Int) (h : (r : Int) ≠ j) => (beq_eq_false_iff_ne.2 h : ((r : Int) == j) = false))
  have ha := blk_lt hT.s.m.hd
  have hc := blk_lt hT.r.m.hd
  have n1 : ¬ own2m a v wr.heap.size := not_own (by omega) (fun e => by have := hT.s.m.own_lt e; omega)
  have n2 : ¬ own2m c u wr.heap.size := not_own (by omega) (fun e => by have := hT.r.m.own_lt e; omega)
  have N1 := Lib.hid n1; have N2 := Lib.hid n2
  have hT0 := hT.keep ((Keeps.refl NoS wr).alloc (.cells #[.int .i64 kd, .int .i64 at_, .int .i64 A, .int .i64 B] 86))
  have g0 : (wr.alloc (.cells #[.int .i64 kd, .int .i64 at_, .int .i64 A, .int .i64 B] 86)).cell? ⟨wr.heap.size, 2, none⟩ = some (.int .i64 A) := by rw [blk_cell (heap_alloc_new _ _)]; rfl
  have g1 : (wr.alloc (.cells #[.int .i64 kd, .int .i64 at_, .int .i64 A, .int .i64 B] 86)).cell? ⟨wr.heap.size, 3, none⟩ = some (.int .i64 B) := by rw [blk_cell (heap_alloc_new _ _)]; rfl
  have g2 : (wr.alloc (.cells #[.int .i64 kd, .int .i64 at_, .int .i64 A, .int .i64 B] 86)).cell? ⟨wr.heap.size, 0, none⟩ = some (.int .i64 kd) := by rw [blk_cell (heap_alloc_new _ _)]; rfl
  have g3 : (wr.alloc (.cells #[.int .i64 kd, .int .i64 at_, .int .i64 A, .int .i64 B] 86)).cell? ⟨wr.heap.size, 1, none⟩ = some (.int .i64 at_) := by rw [blk_cell (heap_alloc_new _ _)]; rfl
  obtain ⟨x0, _⟩ := hT0.r.m.cells
  obtain ⟨pu, cu, hu⟩ := hT.r.m.slice
  rw [hu] at x0
  have HT := Lib.hid hT0
  clear hz hT hT0 ha hc n1 n2 q1 q2 hu
  go_enter Try.func66, Try.ntmps66
  go_wp2_with fail
  generalize wr.alloc (.cells #[.int .i64 kd, .int .i64 at_, .int .i64 A, .int .i64 B] 86) = W at *
  obtain ⟨Bx, hBx⟩ : ∃ Bx, wr.heap.size = Bx := ⟨_, rfl⟩
  rw [hBx] at g0 g1 g2 g3 N1 N2
  rw [hBx]
  clear hBx
  go_quiet ((go_at_call 73; exact Calls.quiet_of_same (HZ.out _)))
  have hT1 := HT.out.keep ((Keeps.refl NoS W).drewN nq)
  have d0 : (W.drewN nq).cell? ⟨Bx, 2, none⟩ = some (.int .i64 A) := g0
  have d1 : (W.drewN nq).cell? ⟨Bx, 3, none⟩ = some (.int .i64 B) := g1
  have d2 : (W.drewN nq).cell? ⟨Bx, 0, none⟩ = some (.int .i64 kd) := g2
  clear HT HZ g0 g1 g2 g3 x0
  generalize W.drewN nq = X at *
  by_cases hr0 : r = 0
  · subst hr0
    go_wp2_with (first
      | (go_at_call 63; refine (load_tot a v M z _ hT1.s.m).mono ?_; rintro e w2 ⟨rfl, hm, hk⟩; have hT2 := hT1.turnS hm hk)
      | (go_at_call 74; refine (rload_tot c u M z _ hT2.r.m).mono ?_; rintro e w3 ⟨rfl, hm3, hk3⟩; have hT3 := hT2.turnR hm3 hk3))
    all_goals go_ret
    all_goals exact ⟨rfl, _, by rw [loadI_L], hT3⟩
  · have t0 := TJ.out 0 (by omega)
    by_cases hr1 : r = 1
    · subst hr1
      go_wp2_with fail
      go_region_held3 (fun w' => w'.cell? ⟨Bx, 2, none⟩ = some (.int .i64 A)) (first | exact d0 | exact d3 | exact d4) (first
        | (go_at_call 65; refine (store_tot a v M z A _ (hT1.keep ((Keeps.refl NoS _).drew)).s.m).mono ?_; rintro e w2 ⟨rfl, hm, hk⟩; have hT2 := (hT1.keep ((Keeps.refl NoS _).drew)).turnS hm hk; have d3 := hk.cell (p := ⟨Bx, 2, none⟩) d0 N1.out)
        | (go_at_call 75; refine (rstore_tot c u M z A _ hT2.r.m).mono ?_; rintro e w3 ⟨rfl, hm3, hk3⟩; have hT3 := hT2.turnR hm3 hk3; have d4 := hk3.cell (p := ⟨Bx, 2, none⟩) d3 N2.out))
      go_wp2_with fail
      all_goals go_ret
      all_goals exact ⟨by simp, _, by rw [storeI_len], hT3⟩
    · have t1 := TJ.out 1 (by omega)
      by_cases hr2 : r = 2
      · subst hr2
        go_wp2_with (first
          | (go_at_call 52; refine (swap_tot a v M z A B _ hT1.s.m).mono ?_; rintro e w2 ⟨rfl, hm, hk⟩; have hT2 := hT1.turnS hm hk; have d3 := hk.cell (p := ⟨Bx, 2, none⟩) d0 N1.out; have d4 := hk.cell (p := ⟨Bx, 3, none⟩) d1 N1.out)
          | (go_at_call 76; refine (rswap_tot c u M z A B _ hT2.r.m).mono ?_; rintro e w3 ⟨rfl, hm3, hk3⟩; have hT3 := hT2.turnR hm3 hk3))
        all_goals go_ret
        all_goals exact ⟨by simp, _, by rw [swapI_len], hT3⟩
      · have t2 := TJ.out 2 (by omega)
        by_cases hr3 : r = 3
        · subst hr3
          go_wp2_with (first
            | (go_at_call 39; refine (add_tot a v M z A _ hT1.s.m).mono ?_; rintro e w2 ⟨rfl, hm, hk⟩; have hT2 := hT1.turnS hm hk; have d3 := hk.cell (p := ⟨Bx, 2, none⟩) d0 N1.out)
            | (go_at_call 77; refine (radd_tot c u M z A _ hT2.r.m).mono ?_; rintro e w3 ⟨rfl, hm3, hk3⟩; have hT3 := hT2.turnR hm3 hk3))
          all_goals go_ret
          all_goals exact ⟨by simp, _, by rw [addI_len], hT3⟩
        · have t3 := TJ.out 3 (by omega)
          go_wp2_with (first
            | (go_at_call 40; refine (peek_tot a v M z _ hT1.s.m).mono ?_; rintro e w2 ⟨rfl, rfl⟩)
            | (go_at_call 78; refine (rpeek_tot c u M z _ hT1.r.m).mono ?_; rintro e w3 ⟨rfl, rfl⟩))
          all_goals go_ret
          all_goals exact ⟨by simp, _, rfl, hT1⟩
/-- an access that came in, as the walk reads it -/
def OpAt (b off k : Nat) (kd at_ A B : Int) (w : World) : Prop :=
  w.cell? ⟨b, off + k * 4, none⟩ = some (.int .i64 kd) ∧ w.cell? ⟨b, off + k * 4 + 1, none⟩ = some (.int .i64 at_) ∧ w.cell? ⟨b, off + k * 4 + 2, none⟩ = some (.int .i64 A) ∧ w.cell? ⟨b, off + k * 4 + 3, none⟩ = some (.int .i64 B)
theorem OpAt.keep {b off k : Nat} {kd at_ A B : Int} {w w' : World} (h : OpAt b off k kd at_ A B w) (hk : Keeps NoS w w') : OpAt b off k kd at_ A B w' :=
  ⟨hk.cell h.1 (fun f => f), hk.cell h.2.1 (fun f => f), hk.cell h.2.2.1 (fun f => f), hk.cell h.2.2.2 (fun f => f)⟩
theorem MemT.allCells {T : TypeId} {w : World} {a : Nat} {v : Value} {M : MemS} (h : MemT T w a v M) :
    w.cell? ⟨a, 1, none⟩ = some (.int .i64 M.st) ∧ w.cell? ⟨a, 2, none⟩ = some (.int .i64 M.last.k) ∧ w.cell? ⟨a, 3, none⟩ = some (.int .i64 M.last.at_) ∧ w.cell? ⟨a, 4, none⟩ = some (.int .i64 M.last.val) ∧ w.cell? ⟨a, 5, none⟩ = some (.int .i64 M.last.saw) ∧ w.cell? ⟨a, 6, none⟩ = some (.bool M.last.done) :=
  ⟨by rw [blk_cell h.hd]; rfl, by rw [blk_cell h.hd]; rfl, by rw [blk_cell h.hd]; rfl, by rw [blk_cell h.hd]; rfl, by rw [blk_cell h.hd]; rfl, by rw [blk_cell h.hd]; rfl⟩
/-- what the document's memory tells of itself -/
def RefTold (c : Nat) (st k at_ val saw : Int) (done : Bool) (w : World) : Prop :=
  w.cell? ⟨c, 1, none⟩ = some (.int .i64 st) ∧ w.cell? ⟨c, 2, none⟩ = some (.int .i64 k) ∧ w.cell? ⟨c, 3, none⟩ = some (.int .i64 at_) ∧ w.cell? ⟨c, 4, none⟩ = some (.int .i64 val) ∧ w.cell? ⟨c, 5, none⟩ = some (.int .i64 saw) ∧ w.cell? ⟨c, 6, none⟩ = some (.bool done)
theorem RefTold.keep {c : Nat} {st k at_ val saw : Int} {done : Bool} {w w' : World} (h : RefTold c st k at_ val saw done w) (hk : Keeps NoS w w') : RefTold c st k at_ val saw done w' :=
  ⟨hk.cell h.1 (fun f => f), hk.cell h.2.1 (fun f => f), hk.cell h.2.2.1 (fun f => f), hk.cell h.2.2.2.1 (fun f => f), hk.cell h.2.2.2.2.1 (fun f => f), hk.cell h.2.2.2.2.2 (fun f => f)⟩
set_option maxHeartbeats 2000000 in
set_option maxRecDepth 100000 in
theorem memAsks_main (w : World) (v0 : Value) (zs : List Int) (hin : InI w v0 zs) (v1 : Value) (L : NRows) (hinN : InN 4 w v1 L) (h40 : zs.length ≤ 40) (h100 : L.len ≤ 100) :
    Calls Try.prog 17 #[v0, v1] w fun e w' => e = .returned (.bool true) ∧ Keeps NoS w w' := by
  have HI := Lib.hid hin
  obtain ⟨p0, cap0, rfl, _, _, _⟩ := hin
  obtain ⟨p, cap, rfl, hmax, hcell⟩ := hinN
  have Hc := Lib.hid hcell
  clear hcell
  go_enter Try.func17, Try.ntmps17
  go_wp2_with fail
  refine (new_in w _ zs w HI.out (Keeps.refl _ _) (by omega)).mono ?_
  rintro e w1 ⟨a, v, rfl, hm, ha, hv, hkp⟩
  have h1 := fresh_in (Keeps.refl NoS w) hm ha hv hkp
  clear hm ha hv hkp
  go_wp2_with fail
  refine (rnew_in w _ zs _ HI.out h1.kp (by omega)).mono ?_
  rintro e w2 ⟨c, u, rfl, hr, hc, hu, hkr⟩
  have hT0 := TwoT.make h1 hr hc hu hkr
  have HT0 := Lib.hid hT0
  clear h1 hr hc hu hkr hT0 HI
  go_wp2_with fail
  go_loopw [7] (fun i wr => ∃ (k : Nat) (M : MemS), k ≤ L.len ∧ i = .int .i64 k ∧ M.L.length = zs.length ∧ TwoR w wr a c v u M M) (fun i _ => L.len - (intOf i).toNat)
  case atStart => exact ⟨0, _, by omega, rfl, rfl, HT0.out⟩
  case round =>
    clear HT0
    obtain ⟨k, M, hk, rfl, hM, hT⟩ := hrel
    by_cases hlt : k < L.len
    · obtain ⟨b, off, rfl, hcell⟩ := Hc.out (by omega)
      have g0 := (hcell k hlt 0 (by decide)).1
      have g1 := (hcell k hlt 1 (by decide)).1
      have g2 := (hcell k hlt 2 (by decide)).1
      have g3 := (hcell k hlt 3 (by decide)).1
      rw [Nat.add_zero] at g0
      generalize L.F k 0 = kd at *
      generalize L.F k 1 = at_ at *
      generalize L.F k 2 = A at *
      generalize L.F k 3 = B at *
      have hop0 : OpAt b off k kd at_ A B w := ⟨g0, g1, g2, g3⟩
      have HOP := Lib.hid hop0
      have hop := hop0.keep hT.s.kp
      have HM := Lib.hid hM
      have hM4 : M.L.length ≤ 4096 := by omega
      clear hcell g0 g1 g2 g3 hM hop0
      go_wp2_with fail
      refine wp_region_held_drew (S := (fun w' => w'.cell? ⟨b, off + k * 4, none⟩ = some (.int .i64 kd) ∧ w'.cell? ⟨b, off + k * 4 + 1, none⟩ = some (.int .i64 at_) ∧ w'.cell? ⟨b, off + k * 4 + 2, none⟩ = some (.int .i64 A) ∧ w'.cell? ⟨b, off + k * 4 + 3, none⟩ = some (.int .i64 B))) (by kernel_rfl) (hop) (fun hHeld => ?_)
      refine wpAnyH_take (i := 0) (v := ?_) (by simp only [List.getElem?_toArray, List.getElem?_cons_succ, List.getElem?_cons_zero]; rfl) (by kernel_rfl) (by kernel_rfl) (by kernel_rfl) (by exact fun _ _ _ h => h) (Or.inl ⟨by rfl, ?_⟩) hHeld ?_
      rotate_left
      · intro w hSw; (try dsimp only at hSw); go_simp; (try with_reducible rfl)
      try simp only [Act.put, List.setIfInBounds_toArray, List.set_cons_zero, List.set_cons_succ]
      refine wpAnyH_take (i := 1) (v := ?_) (by simp only [List.getElem?_toArray, List.getElem?_cons_succ, List.getElem?_cons_zero]; rfl) (by kernel_rfl) (by kernel_rfl) (by kernel_rfl) (by exact fun _ _ _ h => h) (Or.inl ⟨by rfl, ?_⟩) hHeld ?_
      rotate_left
      · intro w hSw; (try dsimp only at hSw); go_simp; (try with_reducible rfl)
      try simp only [Act.put, List.setIfInBounds_toArray, List.set_cons_zero, List.set_cons_succ]
      refine wpAnyH_take (i := 2) (v := ?_) (by simp only [List.getElem?_toArray, List.getElem?_cons_succ, List.getElem?_cons_zero]; rfl) (by kernel_rfl) (by kernel_rfl) (by kernel_rfl) (by exact fun _ _ _ h => h) (Or.inl ⟨by rfl, ?_⟩) hHeld ?_
      rotate_left
      · intro w hSw; (try dsimp only at hSw); go_simp; (try with_reducible rfl)
      try simp only [Act.put, List.setIfInBounds_toArray, List.set_cons_zero, List.set_cons_succ]
      refine wpAnyH_take (i := 3) (v := ?_) (by simp only [List.getElem?_toArray, List.getElem?_cons_succ, List.getElem?_cons_zero]; rfl) (by kernel_rfl) (by kernel_rfl) (by kernel_rfl) (by exact fun _ _ _ h => h) (Or.inl ⟨by rfl, ?_⟩) hHeld ?_
      rotate_left
      · intro w hSw; (try dsimp only at hSw); go_simp; (try with_reducible rfl)
      try simp only [Act.put, List.setIfInBounds_toArray, List.set_cons_zero, List.set_cons_succ]
      refine wpAnyH_take (i := 4) (v := ?_) (by simp only [List.getElem?_toArray, List.getElem?_cons_succ, List.getElem?_cons_zero]; rfl) (by kernel_rfl) (by kernel_rfl) (by kernel_rfl) (by exact fun _ _ _ h => h) (Or.inl ⟨by rfl, ?_⟩) hHeld ?_
      rotate_left
      · intro w hSw; (try dsimp only at hSw); go_simp; (try with_reducible rfl)
      try simp only [Act.put, List.setIfInBounds_toArray, List.set_cons_zero, List.set_cons_succ]
      refine wpAnyH_take (i := 5) (v := ?_) (by simp only [List.getElem?_toArray, List.getElem?_cons_succ, List.getElem?_cons_zero]; rfl) (by kernel_rfl) (by kernel_rfl) (by kernel_rfl) (by exact fun _ _ _ h => h) (Or.inl ⟨by rfl, ?_⟩) hHeld ?_
      rotate_left
      · intro w hSw; (try dsimp only at hSw); go_simp; (try with_reducible rfl)
      try simp only [Act.put, List.setIfInBounds_toArray, List.set_cons_zero, List.set_cons_succ]
      refine wpAnyH_ready (rs := [6]) (by kernel_rfl) (by simp) ?_
      refine AllReadyH.cons (by simp only [List.getElem?_toArray, List.getElem?_cons_succ, List.getElem?_cons_zero]; rfl) (fun kC hkC => ?_) AllReadyH.nil
      go_simp
      refine (do_any w _ a c v u M (hT.keep ((Keeps.refl _ _).drew)) kd at_ A B hM4).mono ?_; rintro e w3 ⟨rfl, M2, hM2, hT2⟩; have hop2 := HOP.out.keep hT2.s.kp
      (try go_wp2_with fail)
      refine hkC.out _ _ (hop2) (fun hHeld => ?_)
      clear hkC kC
      try simp only [Act.put, List.setIfInBounds_toArray, List.set_cons_zero, List.set_cons_succ]
      refine wpAnyH_mono (S' := (fun w' => (w'.cell? ⟨c, 1, none⟩ = some (.int .i64 M2.st) ∧ w'.cell? ⟨c, 2, none⟩ = some (.int .i64 M2.last.k) ∧ w'.cell? ⟨c, 3, none⟩ = some (.int .i64 M2.last.at_) ∧ w'.cell? ⟨c, 4, none⟩ = some (.int .i64 M2.last.val) ∧ w'.cell? ⟨c, 5, none⟩ = some (.int .i64 M2.last.saw) ∧ w'.cell? ⟨c, 6, none⟩ = some (.bool M2.last.done)) ∧ (w'.cell? ⟨b, off + k * 4, none⟩ = some (.int .i64 kd) ∧ w'.cell? ⟨b, off + k * 4 + 1, none⟩ = some (.int .i64 at_) ∧ w'.cell? ⟨b, off + k * 4 + 2, none⟩ = some (.int .i64 A) ∧ w'.cell? ⟨b, off + k * 4 + 3, none⟩ = some (.int .i64 B)))) (fun _ h => h.2) _ _ _ _ ?_
      replace hHeld : ((fun w' => (w'.cell? ⟨c, 1, none⟩ = some (.int .i64 M2.st) ∧ w'.cell? ⟨c, 2, none⟩ = some (.int .i64 M2.last.k) ∧ w'.cell? ⟨c, 3, none⟩ = some (.int .i64 M2.last.at_) ∧ w'.cell? ⟨c, 4, none⟩ = some (.int .i64 M2.last.val) ∧ w'.cell? ⟨c, 5, none⟩ = some (.int .i64 M2.last.saw) ∧ w'.cell? ⟨c, 6, none⟩ = some (.bool M2.last.done)) ∧ (w'.cell? ⟨b, off + k * 4, none⟩ = some (.int .i64 kd) ∧ w'.cell? ⟨b, off + k * 4 + 1, none⟩ = some (.int .i64 at_) ∧ w'.cell? ⟨b, off + k * 4 + 2, none⟩ = some (.int .i64 A) ∧ w'.cell? ⟨b, off + k * 4 + 3, none⟩ = some (.int .i64 B))) : World → Prop) _ := ⟨hT2.r.m.allCells, hop2⟩
      refine wpAnyH_take (i := 7) (v := ?_) (by simp only [List.getElem?_toArray, List.getElem?_cons_succ, List.getElem?_cons_zero]; rfl) (by kernel_rfl) (by kernel_rfl) (by kernel_rfl) (by exact fun _ _ _ h => h) (Or.inl ⟨by rfl, ?_⟩) hHeld ?_
      rotate_left
      · intro w hSw; (try dsimp only at hSw); go_simp; (try with_reducible rfl)
      try simp only [Act.put, List.setIfInBounds_toArray, List.set_cons_zero, List.set_cons_succ]
      refine wpAnyH_take (i := 8) (v := ?_) (by simp only [List.getElem?_toArray, List.getElem?_cons_succ, List.getElem?_cons_zero]; rfl) (by kernel_rfl) (by kernel_rfl) (by kernel_rfl) (by exact fun _ _ _ h => h) (Or.inl ⟨by rfl, ?_⟩) hHeld ?_
      rotate_left
      · intro w hSw; (try dsimp only at hSw); go_simp; (try with_reducible rfl)
      try simp only [Act.put, List.setIfInBounds_toArray, List.set_cons_zero, List.set_cons_succ]
      refine wpAnyH_take (i := 9) (v := ?_) (by simp only [List.getElem?_toArray, List.getElem?_cons_succ, List.getElem?_cons_zero]; rfl) (by kernel_rfl) (by kernel_rfl) (by kernel_rfl) (by exact fun _ _ _ h => h) (Or.inl ⟨by rfl, ?_⟩) hHeld ?_
      rotate_left
      · intro w hSw; (try dsimp only at hSw); go_simp; (try with_reducible rfl)
      try simp only [Act.put, List.setIfInBounds_toArray, List.set_cons_zero, List.set_cons_succ]
      refine wpAnyH_take (i := 11) (v := ?_) (by simp only [List.getElem?_toArray, List.getElem?_cons_succ, List.getElem?_cons_zero]; rfl) (by kernel_rfl) (by kernel_rfl) (by kernel_rfl) (by exact fun _ _ _ h => h) (Or.inl ⟨by rfl, ?_⟩) hHeld ?_
      rotate_left
      · intro w hSw; (try dsimp only at hSw); go_simp; (try with_reducible rfl)
      try simp only [Act.put, List.setIfInBounds_toArray, List.set_cons_zero, List.set_cons_succ]
      refine wpAnyH_take (i := 12) (v := ?_) (by simp only [List.getElem?_toArray, List.getElem?_cons_succ, List.getElem?_cons_zero]; rfl) (by kernel_rfl) (by kernel_rfl) (by kernel_rfl) (by exact fun _ _ _ h => h) (Or.inl ⟨by rfl, ?_⟩) hHeld ?_
      rotate_left
      · intro w hSw; (try dsimp only at hSw); go_simp; (try with_reducible rfl)
      try simp only [Act.put, List.setIfInBounds_toArray, List.set_cons_zero, List.set_cons_succ]
      refine wpAnyH_take (i := 13) (v := ?_) (by simp only [List.getElem?_toArray, List.getElem?_cons_succ, List.getElem?_cons_zero]; rfl) (by kernel_rfl) (by kernel_rfl) (by kernel_rfl) (by exact fun _ _ _ h => h) (Or.inl ⟨by rfl, ?_⟩) hHeld ?_
      rotate_left
      · intro w hSw; (try dsimp only at hSw); go_simp; (try with_reducible rfl)
      try simp only [Act.put, List.setIfInBounds_toArray, List.set_cons_zero, List.set_cons_succ]
      refine wpAnyH_take (i := 14) (v := ?_) (by simp only [List.getElem?_toArray, List.getElem?_cons_succ, List.getElem?_cons_zero]; rfl) (by kernel_rfl) (by kernel_rfl) (by kernel_rfl) (by exact fun _ _ _ h => h) (Or.inl ⟨by rfl, ?_⟩) hHeld ?_
      rotate_left
      · intro w hSw; (try dsimp only at hSw); go_simp; (try with_reducible rfl)
      try simp only [Act.put, List.setIfInBounds_toArray, List.set_cons_zero, List.set_cons_succ]
      refine wpAnyH_ready (rs := [10]) (by kernel_rfl) (by simp) ?_
      refine AllReadyH.cons (by simp only [List.getElem?_toArray, List.getElem?_cons_succ, List.getElem?_cons_zero]; rfl) (fun kC hkC => ?_) AllReadyH.nil
      go_simp
      refine (steps_any a v _ _ hT2.s.m).mono ?_; rintro e w4 ⟨rfl, rfl⟩
      (try go_wp2_with fail)
      refine hkC.out _ _ (⟨hT2.r.m.allCells, hop2⟩) (fun hHeld => ?_)
      clear hkC kC
      try simp only [Act.put, List.setIfInBounds_toArray, List.set_cons_zero, List.set_cons_succ]
      refine wpAnyH_take (i := 15) (v := ?_) (by simp only [List.getElem?_toArray, List.getElem?_cons_succ, List.getElem?_cons_zero]; rfl) (by kernel_rfl) (by kernel_rfl) (by kernel_rfl) (by exact fun _ _ _ h => h) (Or.inl ⟨by rfl, ?_⟩) hHeld ?_
      rotate_left
      · intro w hSw; (try dsimp only at hSw); go_simp; (try with_reducible rfl)
      try simp only [Act.put, List.setIfInBounds_toArray, List.set_cons_zero, List.set_cons_succ]
      refine wpAnyH_take (i := 16) (v := ?_) (by simp only [List.getElem?_toArray, List.getElem?_cons_succ, List.getElem?_cons_zero]; rfl) (by kernel_rfl) (by kernel_rfl) (by kernel_rfl) (by exact fun _ _ _ h => h) (Or.inl ⟨by rfl, ?_⟩) hHeld ?_
      rotate_left
      · intro w hSw; (try dsimp only at hSw); go_simp; (try with_reducible rfl)
      try simp only [Act.put, List.setIfInBounds_toArray, List.set_cons_zero, List.set_cons_succ]
      refine wpAnyH_take (i := 17) (v := ?_) (by simp only [List.getElem?_toArray, List.getElem?_cons_succ, List.getElem?_cons_zero]; rfl) (by kernel_rfl) (by kernel_rfl) (by kernel_rfl) (by exact fun _ _ _ h => h) (Or.inl ⟨by rfl, ?_⟩) hHeld ?_
      rotate_left
      · intro w hSw; (try dsimp only at hSw); go_simp; (try with_reducible rfl)
      try simp only [Act.put, List.setIfInBounds_toArray, List.set_cons_zero, List.set_cons_succ]
      refine wpAnyH_take (i := 18) (v := ?_) (by simp only [List.getElem?_toArray, List.getElem?_cons_succ, List.getElem?_cons_zero]; rfl) (by kernel_rfl) (by kernel_rfl) (by kernel_rfl) (by exact fun _ _ _ h => h) (Or.inl ⟨by rfl, ?_⟩) hHeld ?_
      rotate_left
      · intro w hSw; (try dsimp only at hSw); go_simp; (try with_reducible rfl)
      try simp only [Act.put, List.setIfInBounds_toArray, List.set_cons_zero, List.set_cons_succ]
      refine wpAnyH_take (i := 20) (v := ?_) (by simp only [List.getElem?_toArray, List.getElem?_cons_succ, List.getElem?_cons_zero]; rfl) (by kernel_rfl) (by kernel_rfl) (by kernel_rfl) (by exact fun _ _ _ h => h) (Or.inl ⟨by rfl, ?_⟩) hHeld ?_
      rotate_left
      · intro w hSw; (try dsimp only at hSw); go_simp; (try with_reducible rfl)
      try simp only [Act.put, List.setIfInBounds_toArray, List.set_cons_zero, List.set_cons_succ]
      refine wpAnyH_take (i := 21) (v := ?_) (by simp only [List.getElem?_toArray, List.getElem?_cons_succ, List.getElem?_cons_zero]; rfl) (by kernel_rfl) (by kernel_rfl) (by kernel_rfl) (by exact fun _ _ _ h => h) (Or.inl ⟨by rfl, ?_⟩) hHeld ?_
      rotate_left
      · intro w hSw; (try dsimp only at hSw); go_simp; (try with_reducible rfl)
      try simp only [Act.put, List.setIfInBounds_toArray, List.set_cons_zero, List.set_cons_succ]
      refine wpAnyH_take (i := 22) (v := ?_) (by simp only [List.getElem?_toArray, List.getElem?_cons_succ, List.getElem?_cons_zero]; rfl) (by kernel_rfl) (by kernel_rfl) (by kernel_rfl) (by exact fun _ _ _ h => h) (Or.inl ⟨by rfl, ?_⟩) hHeld ?_
      rotate_left
      · intro w hSw; (try dsimp only at hSw); go_simp; (try with_reducible rfl)
      try simp only [Act.put, List.setIfInBounds_toArray, List.set_cons_zero, List.set_cons_succ]
      refine wpAnyH_take (i := 23) (v := ?_) (by simp only [List.getElem?_toArray, List.getElem?_cons_succ, List.getElem?_cons_zero]; rfl) (by kernel_rfl) (by kernel_rfl) (by kernel_rfl) (by exact fun _ _ _ h => h) (Or.inl ⟨by rfl, ?_⟩) hHeld ?_
      rotate_left
      · intro w hSw; (try dsimp only at hSw); go_simp; (try with_reducible rfl)
      try simp only [Act.put, List.setIfInBounds_toArray, List.set_cons_zero, List.set_cons_succ]
      refine wpAnyH_ready (rs := [19]) (by kernel_rfl) (by simp) ?_
      refine AllReadyH.cons (by simp only [List.getElem?_toArray, List.getElem?_cons_succ, List.getElem?_cons_zero]; rfl) (fun kC hkC => ?_) AllReadyH.nil
      go_simp
      refine (last_any a v _ _ hT2.s.m).mono ?_; rintro e w5 ⟨rfl, hk5⟩; have hT5 := hT2.keep hk5
      (try go_wp2_with fail)
      refine hkC.out _ _ (⟨hT5.r.m.allCells, OpAt.keep hop2 hk5⟩) (fun hHeld => ?_)
      clear hkC kC
      try simp only [Act.put, List.setIfInBounds_toArray, List.set_cons_zero, List.set_cons_succ]
      refine wpAnyH_take (i := 24) (v := ?_) (by simp only [List.getElem?_toArray, List.getElem?_cons_succ, List.getElem?_cons_zero]; rfl) (by kernel_rfl) (by kernel_rfl) (by kernel_rfl) (by exact fun _ _ _ h => h) (Or.inl ⟨by rfl, ?_⟩) hHeld ?_
      rotate_left
      · intro w hSw; (try dsimp only at hSw); go_simp; (try with_reducible rfl)
      try simp only [Act.put, List.setIfInBounds_toArray, List.set_cons_zero, List.set_cons_succ]
      refine wpAnyH_take (i := 25) (v := ?_) (by simp only [List.getElem?_toArray, List.getElem?_cons_succ, List.getElem?_cons_zero]; rfl) (by kernel_rfl) (by kernel_rfl) (by kernel_rfl) (by exact fun _ _ _ h => h) (Or.inl ⟨by rfl, ?_⟩) hHeld ?_
      rotate_left
      · intro w hSw; (try dsimp only at hSw); go_simp; (try with_reducible rfl)
      try simp only [Act.put, List.setIfInBounds_toArray, List.set_cons_zero, List.set_cons_succ]
      refine wpAnyH_done (by kernel_rfl) ?_ _
      go_wp2_with fail
      go_roundw
      case rel => exact ⟨k + 1, M2, by omega, by go_num, hM2.trans HM.out, hT5⟩
      case measure => simp [intOf]; omega
    · obtain rfl : k = L.len := by omega
      go_wp2_with (first
        | (go_at_call 37; refine (told2_any _).mono ?_; rintro e w3 ⟨rfl, hk3⟩; have hT3 := hT.keep hk3)
        | (go_at_call 55; refine (same_any a c v u M M _ hT3.s.m hT3.r.m rfl).mono ?_; rintro e w4 ⟨rfl, hk4⟩))
      go_ret
      exact ⟨rfl, hT3.s.kp.trans hk4⟩
set_option maxRecDepth 100000 in
theorem memAsks_walk (w : World) (v0 : Value) (zs : List Int) (hin : InI w v0 zs) (_f0 : ∀ k, k < zs.length → (Lit.int .i64 (zs.getD k 0)).wf = true) (v1 : Value) (L : NRows) (hinN : InN 4 w v1 L) :
    Calls Try.prog 17 #[v0, v1] w fun e w' => e = .returned (.bool true) ∧ Keeps NoS w w' := by
  by_cases h : zs.length ≤ 40 ∧ L.len ≤ 100
  · exact memAsks_main w v0 zs hin v1 L hinN h.1 h.2
  · obtain ⟨p, cap, rfl, hmax, _, _⟩ := hin
    obtain ⟨p2, cap2, rfl, hmax2, _⟩ := hinN
    have h : 40 < zs.length ∨ (zs.length ≤ 40 ∧ 100 < L.len) := by omega
    go_enter Try.func17, Try.ntmps17
    rcases h with h | ⟨h, h'⟩
    all_goals
      go_wp2_with (go_at_call 37; refine (told2_any _).mono ?_; rintro e w3 ⟨rfl, hk3⟩)
      go_ret
      exact ⟨rfl, hk3⟩
end Go.Proofs.Ytldleacoajlinaa
