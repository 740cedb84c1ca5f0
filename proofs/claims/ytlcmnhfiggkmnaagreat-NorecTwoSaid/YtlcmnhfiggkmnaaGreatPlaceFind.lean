/- Find, and the places by their names, of the document's own (syncoperef2). -/
import Derived.Test.YtlcmnhfiggkmnaaGreatPlaceRef
namespace Go.Proofs.YtlcmnhfiggkmnaaGreat
open Go.RowKit
def plV (q : Pl) : Value := .agg #[.int .i64 q.1, .int .i64 q.2.1, .int .i64 q.2.2.1, .int .i64 q.2.2.2]
theorem idx_take {l : List Pl} {q : Pl} {k : Nat} (hk : k < l.length) (hno : ∀ x ∈ l.take k, x ≠ q) (h : l.getD k (0, 0, 0, 0) = q) : idx l q = (k : Int) := by
  refine idx_some ?_
  rw [List.findIdx?_eq_some_iff_getElem]
  refine ⟨hk, by rw [getD_at _ _ _ hk] at h; simp [h], fun j hj => ?_⟩
  have := hno l[j] (by rw [List.mem_take_iff_getElem]; exact ⟨j, by omega, rfl⟩)
  simpa using this
theorem take_no {l : List Pl} {q : Pl} {k : Nat} (hk : k < l.length) (hno : ∀ x ∈ l.take k, x ≠ q) (h : l.getD k (0, 0, 0, 0) ≠ q) : ∀ x ∈ l.take (k + 1), x ≠ q := by
  intro x hx
  rw [List.take_succ_eq_append_getElem hk, List.mem_append] at hx
  rcases hx with hx | hx
  · exact hno x hx
  · rw [getD_at _ _ _ hk] at h; simp at hx; rw [hx]; exact h
theorem ne4 {a b c d a' b' c' d' : Int} (h : (a, b, c, d) ≠ (a', b', c', d')) : (a == a') = false ∨ ((a == a') = true ∧ (b == b') = false) ∨ ((a == a') = true ∧ (b == b') = true ∧ (c == c') = false) ∨ ((a == a') = true ∧ (b == b') = true ∧ (c == c') = true ∧ (d == d') = false) := by
  simp only [ne_eq, Prod.mk.injEq] at h
  simp only [beq_eq_false_iff_ne, beq_iff_eq, ne_eq]
  omega
set_option maxHeartbeats 400000 in
set_option maxRecDepth 100000 in
theorem find_no (m : MapS) (q : Pl) (w : World) (hm : mayB m = false) : Calls Tryz.prog 122 #[mapV m, plV q] w fun e w' => e = .returned (.int .i64 (-1)) ∧ Keeps NoS w w' := by
  have HM := Lib.hid hm
  clear hm
  obtain ⟨s, l, t, c, d⟩ := m
  obtain ⟨q1, q2, q3, q4⟩ := q
  unfold mapV plV
  dsimp only
  go_enter Tryz.func122, Tryz.ntmps122
  go_wp2_with (go_at_call 73; refine (placesl_no ⟨s, l, t, c, d⟩ _ HM.out).mono ?_; rintro e w1 ⟨rfl, hk1⟩)
  go_loop [6] (fun i => i = .int .i64 0) (fun _ => 0)
  case atStart => rfl
  case round =>
    subst hrel
    go_wp2
    go_ret
    exact ⟨rfl, (((Keeps.refl _ _).alloc _).alloc _).trans hk1⟩
set_option maxHeartbeats 400000 in
set_option maxRecDepth 100000 in
theorem find_yes (S L T C D : Nat) (q : Pl) (w : World) (hm : May ⟨S, L, T, C, D⟩) : Calls Tryz.prog 122 #[mapV ⟨S, L, T, C, D⟩, plV q] w fun e w' => e = .returned (.int .i64 (idx (places S L T C D) q)) ∧ Keeps NoS w w' := by
  have HM := Lib.hid hm
  obtain ⟨q1, q2, q3, q4⟩ := q
  obtain ⟨l, hl⟩ : ∃ l, places S L T C D = l := ⟨_, rfl⟩
  rw [hl]
  have HL := Lib.hid hl
  clear hm hl
  unfold mapV plV
  dsimp only
  go_enter Tryz.func122, Tryz.ntmps122
  go_wp2_with fail
  refine (placesl_yes S L T C D _ HM.out).mono ?_
  rintro e w1 ⟨v, n, rfl, hown, _, hk1⟩
  rw [HL.out] at hown
  have hln := hown.1
  rw [flatP_len] at hln
  have hb := hk1.blk (heap_alloc_new _ _) (fun f => f)
  have x0 : w1.cell? ⟨w.heap.size + 1, 0, none⟩ = some (.int .i64 q1) := by have := blk_cell hb 0; simpa using this
  have x1 : w1.cell? ⟨w.heap.size + 1, 1, none⟩ = some (.int .i64 q2) := by have := blk_cell hb 1; simpa using this
  have x2 : w1.cell? ⟨w.heap.size + 1, 2, none⟩ = some (.int .i64 q3) := by have := blk_cell hb 2; simpa using this
  have x3 : w1.cell? ⟨w.heap.size + 1, 3, none⟩ = some (.int .i64 q4) := by have := blk_cell hb 3; simpa using this
  have hkp := (((Keeps.refl NoS w).alloc _).alloc _).trans hk1
  have HK := Lib.hid hkp
  obtain ⟨p, cp, rfl⟩ := owns_slice hown
  have hn : n = l.length := by omega
  have hmax : n ≤ 9223372036854775807 := by
    rcases hown.2 with ⟨_, h⟩ | ⟨_, cap, _, _, _, _, h1, h2, _⟩
    · omega
    · unfold maxLen at h2; omega
  have HO := Lib.hid hown; have HN := Lib.hid hn
  clear hb hkp hk1 hown hln hn HM
  go_wp2_with fail
  go_loopw [6] (fun i wr => ∃ k z : Nat, k ≤ n ∧ i = .int .i64 k ∧ (∀ x ∈ l.take k, x ≠ (q1, q2, q3, q4)) ∧ wr = w1.drewN z) (fun i _ => n - (intOf i).toNat)
  case atStart => exact ⟨0, 0, by omega, rfl, by simp, rfl⟩
  case round =>
    obtain ⟨k, z, hk, rfl, hno, rfl⟩ := hrel
    by_cases hlt : k < n
    · have hkl : k < l.length := by have := HN.out; omega
      rcases HO.out.2 with ⟨_, h⟩ | ⟨g, cap, cur, hv, _, hg, _⟩
      · omega
      simp only [Value.slice.injEq, true_and] at hv
      obtain ⟨rfl, rfl⟩ := hv
      have hc : ∀ j u, (flatP l)[j]? = some u → w1.cell? ⟨g, j, none⟩ = some u := fun j u h => by
        have := HO.out.cells (g := g) rfl j u h; rwa [add_zero_off] at this
      obtain ⟨f0, f1, f2, f3⟩ := flatP_at l k hkl
      have d0 := hc _ _ f0
      have d1 := hc _ _ f1
      have d2 := hc _ _ f2
      have d3 := hc _ _ f3
      obtain ⟨⟨y1, y2, y3, y4⟩, hy⟩ : ∃ y, l.getD k (0, 0, 0, 0) = y := ⟨_, rfl⟩
      rw [hy] at d0 d1 d2 d3
      have HY := Lib.hid hy; have HNO := Lib.hid hno
      clear hc f0 f1 f2 f3 hg hy hno
      dsimp only at d0 d1 d2 d3
      by_cases heq : (y1, y2, y3, y4) = (q1, q2, q3, q4)
      · have HI := Lib.hid (idx_take hkl HNO.out (HY.out.trans heq))
        simp only [Prod.mk.injEq] at heq
        obtain ⟨rfl, rfl, rfl, rfl⟩ := heq
        go_wp2_with fail
        go_quiet (fail)
        go_wp2_with fail
        go_ret
        exact ⟨congrArg (fun z : Int => Ending.returned (.int .i64 z)) HI.out.symm, HK.out.trans (((Keeps.refl _ _).drewN _).drewN _)⟩
      · have HT := Lib.hid (take_no hkl HNO.out (fun e => heq (HY.out.symm.trans e)))
        have h4 := ne4 heq
        clear heq
        rcases h4 with e1 | ⟨e1, e2⟩ | ⟨e1, e2, e3⟩ | ⟨e1, e2, e3, e4⟩
        all_goals
          go_wp2_with fail
          go_quiet (fail)
          go_wp2_with fail
          go_roundw
          case rel => exact ⟨k + 1, _, by omega, by go_num, HT.out, rfl⟩
          case measure => simp [intOf]; omega
    · have he : idx l (q1, q2, q3, q4) = -1 := by
        refine idx_none (find_none fun x hx => hno x ?_)
        rw [List.take_of_length_le (by have := HN.out; omega)]; exact hx
      have HE := Lib.hid he
      clear he hno
      go_wp2_with fail
      go_ret
      exact ⟨congrArg (fun z : Int => Ending.returned (.int .i64 z)) HE.out.symm, HK.out.trans ((Keeps.refl _ _).drewN _)⟩
theorem find_any (m : MapS) (q : Pl) (w : World) : Calls Tryz.prog 122 #[mapV m, plV q] w fun e w' => e = .returned (.int .i64 (idx (placesM m) q)) ∧ Keeps NoS w w' := by
  cases hm : mayB m with
  | false =>
    have : idx (placesM m) q = -1 := by simp [placesM, hm, idx]
    rw [this]; exact find_no m q w hm
  | true =>
    have h := may_of hm
    obtain ⟨s, l, t, c, d⟩ := m
    obtain ⟨S, rfl⟩ := Int.eq_ofNat_of_zero_le (show 0 ≤ s by have := h.s1; simp only at this; omega)
    obtain ⟨L, rfl⟩ := Int.eq_ofNat_of_zero_le (show 0 ≤ l from h.l1)
    obtain ⟨T, rfl⟩ := Int.eq_ofNat_of_zero_le (show 0 ≤ t by have := h.t1; simp only at this; omega)
    obtain ⟨C, rfl⟩ := Int.eq_ofNat_of_zero_le (show 0 ≤ c from h.c1)
    obtain ⟨D, rfl⟩ := Int.eq_ofNat_of_zero_le (show 0 ≤ d from h.d1)
    have : placesM ⟨S, L, T, C, D⟩ = places S L T C D := by simp [placesM, hm]
    rw [this]; exact find_yes S L T C D q w h
set_option maxRecDepth 100000 in
theorem rclock_any (m : MapS) (w : World) : Calls Tryz.prog 99 #[mapV m] w fun e w' => e = .returned (.int .i64 (clockP m)) ∧ Keeps NoS w w' := by
  have HX := Lib.hid (idx_clock m)
  obtain ⟨ms, ml, mt, mc, md⟩ := m
  unfold mapV
  dsimp only
  go_enter Tryz.func99, Tryz.ntmps99
  go_wp2_with (go_at_call 122; refine (find_any ⟨ms, ml, mt, mc, md⟩ (1, 0, 0, 0) _).mono ?_; rw [HX.out]; rintro e w1 ⟨rfl, hk1⟩)
  go_ret
  exact ⟨rfl, ((Keeps.refl _ _).alloc _).trans hk1⟩
set_option maxRecDepth 100000 in
theorem rseq_any (m : MapS) (w : World) : Calls Tryz.prog 100 #[mapV m] w fun e w' => e = .returned (.int .i64 (seqP m)) ∧ Keeps NoS w w' := by
  have HX := Lib.hid (idx_seq m)
  obtain ⟨ms, ml, mt, mc, md⟩ := m
  unfold mapV
  dsimp only
  go_enter Tryz.func100, Tryz.ntmps100
  go_wp2_with (go_at_call 122; refine (find_any ⟨ms, ml, mt, mc, md⟩ (2, 0, 0, 0) _).mono ?_; rw [HX.out]; rintro e w1 ⟨rfl, hk1⟩)
  go_ret
  exact ⟨rfl, ((Keeps.refl _ _).alloc _).trans hk1⟩
set_option maxRecDepth 100000 in
theorem rstripe_any (m : MapS) (i : Int) (w : World) : Calls Tryz.prog 105 #[mapV m, .int .i64 i] w fun e w' => e = .returned (.int .i64 (stripeP m i)) ∧ Keeps NoS w w' := by
  have HX := Lib.hid (idx_stripe m i)
  obtain ⟨ms, ml, mt, mc, md⟩ := m
  unfold mapV
  dsimp only
  go_enter Tryz.func105, Tryz.ntmps105
  go_wp2_with (go_at_call 122; refine (find_any ⟨ms, ml, mt, mc, md⟩ (3, i, 0, 0) _).mono ?_; rw [HX.out]; rintro e w1 ⟨rfl, hk1⟩)
  go_ret
  exact ⟨rfl, ((Keeps.refl _ _).alloc _).trans hk1⟩
set_option maxRecDepth 100000 in
theorem rthread_any (m : MapS) (t p : Int) (w : World) : Calls Tryz.prog 110 #[mapV m, .int .i64 t, .int .i64 p] w fun e w' => e = .returned (.int .i64 (threadP m t p)) ∧ Keeps NoS w w' := by
  have HX := Lib.hid (idx_thread m t p)
  obtain ⟨ms, ml, mt, mc, md⟩ := m
  unfold mapV
  dsimp only
  go_enter Tryz.func110, Tryz.ntmps110
  go_wp2_with (go_at_call 122; refine (find_any ⟨ms, ml, mt, mc, md⟩ (5, t, 0, p) _).mono ?_; rw [HX.out]; rintro e w1 ⟨rfl, hk1⟩)
  go_ret
  exact ⟨rfl, ((Keeps.refl _ _).alloc _).trans hk1⟩
theorem rsize_no (m : MapS) (w : World) (hm : mayB m = false) : Calls Tryz.prog 27 #[mapV m] w fun e w' => e = .returned (.int .i64 0) ∧ Keeps NoS w w' := by
  have HM := Lib.hid hm
  clear hm
  obtain ⟨ms, ml, mt, mc, md⟩ := m
  unfold mapV
  dsimp only
  go_enter Tryz.func27, Tryz.ntmps27
  go_wp2_with (go_at_call 73; refine (placesl_no ⟨ms, ml, mt, mc, md⟩ _ HM.out).mono ?_; rintro e w1 ⟨rfl, hk1⟩)
  go_ret
  exact ⟨rfl, ((Keeps.refl _ _).alloc _).trans hk1⟩
theorem rsize_yes (S L T C D : Nat) (w : World) (hm : May ⟨S, L, T, C, D⟩) : Calls Tryz.prog 27 #[mapV ⟨S, L, T, C, D⟩] w fun e w' => e = .returned (.int .i64 (places S L T C D).length) ∧ Keeps NoS w w' := by
  have HM := Lib.hid hm
  clear hm
  unfold mapV
  dsimp only
  go_enter Tryz.func27, Tryz.ntmps27
  go_wp2_with (go_at_call 73; refine (placesl_yes S L T C D _ HM.out).mono ?_; rintro e w1 ⟨v, n, rfl, hown, _, hk1⟩; have hln := hown.1; rw [flatP_len] at hln; obtain ⟨p, cp, rfl⟩ := owns_slice hown; clear hown)
  go_ret
  exact ⟨congrArg (fun z : Int => Ending.returned (.int .i64 z)) (by omega), ((Keeps.refl _ _).alloc _).trans hk1⟩
theorem rsize_any (m : MapS) (w : World) : Calls Tryz.prog 27 #[mapV m] w fun e w' => e = .returned (.int .i64 (sizeP m)) ∧ Keeps NoS w w' := by
  rw [← placesM_len]
  cases hm : mayB m with
  | false =>
    have : (placesM m).length = 0 := by simp [placesM, hm]
    rw [this]; exact rsize_no m w hm
  | true =>
    have h := may_of hm
    obtain ⟨s, l, t, c, d⟩ := m
    obtain ⟨S, rfl⟩ := Int.eq_ofNat_of_zero_le (show 0 ≤ s by have := h.s1; simp only at this; omega)
    obtain ⟨L, rfl⟩ := Int.eq_ofNat_of_zero_le (show 0 ≤ l from h.l1)
    obtain ⟨T, rfl⟩ := Int.eq_ofNat_of_zero_le (show 0 ≤ t by have := h.t1; simp only at this; omega)
    obtain ⟨C, rfl⟩ := Int.eq_ofNat_of_zero_le (show 0 ≤ c from h.c1)
    obtain ⟨D, rfl⟩ := Int.eq_ofNat_of_zero_le (show 0 ≤ d from h.d1)
    have : placesM ⟨S, L, T, C, D⟩ = places S L T C D := by simp [placesM, hm]
    rw [this]; exact rsize_yes S L T C D w h
theorem rclock_lit (ms ml mt mc md : Int) (v : Int) (h : clockP ⟨ms, ml, mt, mc, md⟩ = v) (w : World) : Calls Tryz.prog 99 #[.agg #[.int .i64 ms, .int .i64 ml, .int .i64 mt, .int .i64 mc, .int .i64 md]] w fun e w' => e = .returned (.int .i64 v) ∧ Keeps NoS w w' := by
  subst h; exact rclock_any ⟨ms, ml, mt, mc, md⟩ w
theorem rseq_lit (ms ml mt mc md : Int) (v : Int) (h : seqP ⟨ms, ml, mt, mc, md⟩ = v) (w : World) : Calls Tryz.prog 100 #[.agg #[.int .i64 ms, .int .i64 ml, .int .i64 mt, .int .i64 mc, .int .i64 md]] w fun e w' => e = .returned (.int .i64 v) ∧ Keeps NoS w w' := by
  subst h; exact rseq_any ⟨ms, ml, mt, mc, md⟩ w
theorem rstripe_lit (ms ml mt mc md i : Int) (v : Int) (h : stripeP ⟨ms, ml, mt, mc, md⟩ i = v) (w : World) : Calls Tryz.prog 105 #[.agg #[.int .i64 ms, .int .i64 ml, .int .i64 mt, .int .i64 mc, .int .i64 md], .int .i64 i] w fun e w' => e = .returned (.int .i64 v) ∧ Keeps NoS w w' := by
  subst h; exact rstripe_any ⟨ms, ml, mt, mc, md⟩ i w
theorem rthread_lit (ms ml mt mc md x p : Int) (v : Int) (h : threadP ⟨ms, ml, mt, mc, md⟩ x p = v) (w : World) : Calls Tryz.prog 110 #[.agg #[.int .i64 ms, .int .i64 ml, .int .i64 mt, .int .i64 mc, .int .i64 md], .int .i64 x, .int .i64 p] w fun e w' => e = .returned (.int .i64 v) ∧ Keeps NoS w w' := by
  subst h; exact rthread_any ⟨ms, ml, mt, mc, md⟩ x p w
theorem rsize_lit (ms ml mt mc md : Int) (v : Int) (h : sizeP ⟨ms, ml, mt, mc, md⟩ = v) (w : World) : Calls Tryz.prog 27 #[.agg #[.int .i64 ms, .int .i64 ml, .int .i64 mt, .int .i64 mc, .int .i64 md]] w fun e w' => e = .returned (.int .i64 v) ∧ Keeps NoS w w' := by
  subst h; exact rsize_any ⟨ms, ml, mt, mc, md⟩ w
end Go.Proofs.YtlcmnhfiggkmnaaGreat
