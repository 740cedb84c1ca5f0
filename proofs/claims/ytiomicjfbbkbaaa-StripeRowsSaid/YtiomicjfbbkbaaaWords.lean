/- The functions of package words, and the document's own, each with what it computes; near maps. -/
import Derived.Test.YtiomicjfbbkbaaaPlaceFind
import Derived.Test.YtiomicjfbbkbaaaBits
import Derived.Test.YtiomicjfbbkbaaaIn2
import Derived.Deep.RegionHeld3
import Derived.Deep.DeepCutAuto
namespace Go.Proofs.Ytiomicjfbbkbaaa
open Go.RowKit

/-- numbers that lie somewhere -/
def RowI (w : World) (v : Value) (L : List Int) : Prop :=
  (v = .slice none 0 0 ∧ L = []) ∨ ∃ g cap, v = .slice (some ⟨g, 0, none⟩) L.length cap ∧ ∀ j, j < L.length → w.cell? ⟨g, j, none⟩ = some (.int .i64 (L.getD j 0))
theorem RowI.keep {w w' : World} {v : Value} {L : List Int} (h : RowI w v L) (k : Keeps NoS w w') : RowI w' v L := by
  rcases h with h | ⟨g, cap, hv, hc⟩
  · exact .inl h
  · exact .inr ⟨g, cap, hv, fun j hj => k.cell (hc j hj) (fun f => f)⟩
theorem RowI.slice {w : World} {v : Value} {L : List Int} (h : RowI w v L) : ∃ p c, v = .slice p L.length c := by
  rcases h with ⟨rfl, rfl⟩ | ⟨g, cap, rfl, _⟩
  · exact ⟨_, _, rfl⟩
  · exact ⟨_, _, rfl⟩
theorem rowI_one (w : World) (x : Int) (t : TypeId) : RowI (w.alloc (.cells #[.int .i64 x] t)) (.slice (some ⟨w.heap.size, 0, none⟩) 1 1) [x] :=
  .inr ⟨w.heap.size, 1, rfl, fun j hj => by
    rw [blk_cell (heap_alloc_new _ _)]
    match j, hj with
    | 0, _ => rfl⟩
theorem rowI_two (w : World) (x y : Int) (t : TypeId) : RowI (w.alloc (.cells #[.int .i64 x, .int .i64 y] t)) (.slice (some ⟨w.heap.size, 0, none⟩) 2 2) [x, y] :=
  .inr ⟨w.heap.size, 2, rfl, fun j hj => by
    rw [blk_cell (heap_alloc_new _ _)]
    match j, hj with
    | 0, _ => rfl
    | 1, _ => rfl⟩

theorem lock45 (m : MapS) (l : Int) : (lockP m l 4 = -1 ∧ lockP m l 5 = -1) ∨ (0 ≤ lockP m l 4 ∧ lockP m l 5 = lockP m l 4 + 1 ∧ lockP m l 4 ≤ 200) := by
  unfold lockP
  cases hm : mayB m with
  | false => left; simp
  | true =>
    by_cases h : 0 ≤ l ∧ l < m.l
    · right
      have hb := starts_bd (may_of hm)
      have h4 := (may_of hm).l2
      rw [inB_of h.1 h.2, show inB 4 6 = true from rfl, show inB 5 6 = true from rfl]
      simp only [Bool.and_self, if_true]
      omega
    · left; rw [inB_not h]; simp
/-- what is watched of a lock -/
def watchL (m : MapS) (l : Int) (rw_ rd : Bool) : List Int := if lockP m l 4 < 0 then [] else if rw_ && !rd then [lockP m l 4, lockP m l 5] else [lockP m l 4]
theorem nhid {P : Prop} (h : P) : P := h
set_option maxRecDepth 100000 in
theorem watched_any (m : MapS) (l : Int) (rw_ rd : Bool) (w : World) : Calls Try.prog 14 #[mapV m, .int .i64 l, .bool rw_, .bool rd] w fun e w' => ∃ v, e = .returned v ∧ RowI w' v (watchL m l rw_ rd) ∧ Keeps NoS w w' := by
  obtain ⟨x, hx⟩ : ∃ x, lockP m l 4 = x := ⟨_, rfl⟩
  obtain ⟨y, hy⟩ : ∃ y, lockP m l 5 = y := ⟨_, rfl⟩
  unfold watchL
  rw [hx, hy]
  have HX := Lib.hid hx; have HY := Lib.hid hy
  clear hx hy
  obtain ⟨ms, ml, mt, mc, md⟩ := m
  by_cases h0 : x < 0
  · rw [if_pos h0]
    unfold mapV; dsimp only
    go_enter Try.func14, Try.ntmps14
    go_wp2_with (go_at_call 16; refine (lock_lit ms ml mt mc md l 4 x HX.out _).mono ?_; rintro e w1 ⟨rfl, hk1⟩)
    go_ret
    exact ⟨_, rfl, .inl ⟨rfl, rfl⟩, ((Keeps.refl NoS w).alloc _).trans hk1⟩
  · rw [if_neg h0]
    cases rw_ <;> cases rd
    all_goals
      unfold mapV; dsimp only
      go_enter Try.func14, Try.ntmps14
      go_wp2_with (first
        | (go_at_call 16; (with_reducible refine (lock_lit ms ml mt mc md l 4 x HX.out _).mono ?_); rintro e w1 ⟨rfl, hk1⟩; obtain ⟨b0, b1, b2, b3, b4, bz⟩ := box_cells hk1)
        | (go_at_call 16; (with_reducible refine (lock_lit ms ml mt mc md l 5 y HY.out _).mono ?_); rintro e w2 ⟨rfl, hk2⟩))
      go_ret
      first
        | exact ⟨_, rfl, rowI_two _ _ _ _, ((((Keeps.refl NoS w).alloc _).trans hk1).trans hk2).alloc _⟩
        | exact ⟨_, rfl, rowI_one _ _ _, (((Keeps.refl NoS w).alloc _).trans hk1).alloc _⟩
set_option maxRecDepth 100000 in
theorem rwatched_any (m : MapS) (l : Int) (rw_ rd : Bool) (w : World) : Calls Try.prog 15 #[mapV m, .int .i64 l, .bool rw_, .bool rd] w fun e w' => ∃ v, e = .returned v ∧ RowI w' v (watchL m l rw_ rd) ∧ Keeps NoS w w' := by
  have h45 := lock45 m l
  obtain ⟨x, hx⟩ : ∃ x, lockP m l 4 = x := ⟨_, rfl⟩
  obtain ⟨y, hy⟩ : ∃ y, lockP m l 5 = y := ⟨_, rfl⟩
  unfold watchL
  rw [hx, hy] at h45
  rw [hx, hy]
  have HX := Lib.hid hx
  clear hx hy
  obtain ⟨ms, ml, mt, mc, md⟩ := m
  by_cases h0 : x < 0
  · rw [if_pos h0]
    clear h45
    unfold mapV; dsimp only
    go_enter Try.func15, Try.ntmps15
    go_wp2_with (go_at_call 32; refine (rlock_lit ms ml mt mc md l 4 x HX.out _).mono ?_; rintro e w1 ⟨rfl, hk1⟩)
    go_ret
    exact ⟨_, rfl, .inl ⟨rfl, rfl⟩, ((Keeps.refl NoS w).alloc _).trans hk1⟩
  · rw [if_neg h0]
    obtain rfl : y = x + 1 := by omega
    have hx2 : x ≤ 200 := by omega
    clear h45
    cases rw_ <;> cases rd
    all_goals
      unfold mapV; dsimp only
      go_enter Try.func15, Try.ntmps15
      go_wp2_with (go_at_call 32; refine (rlock_lit ms ml mt mc md l 4 x HX.out _).mono ?_; rintro e w1 ⟨rfl, hk1⟩)
      go_ret
      first
        | exact ⟨_, rfl, rowI_two _ _ _ _, (((Keeps.refl NoS w).alloc _).trans hk1).alloc _⟩
        | exact ⟨_, rfl, rowI_one _ _ _, (((Keeps.refl NoS w).alloc _).trans hk1).alloc _⟩
/-- does a word say that a lock is held? -/
def heldB (m : MapS) (l at_ val : Int) : Bool := decide (0 ≤ at_) && ((decide (at_ = lockP m l 5) && decide (val % 64 ≠ 0)) || (decide (at_ = lockP m l 4) && decide (val % 2 ≠ 0)))
theorem and_0 (x : Int) : bits .and .i64 x 0 = 0 := by
  have := and_mask x 0 (by decide) 0 rfl
  rw [this]; omega
set_option maxHeartbeats 400000 in
set_option maxRecDepth 100000 in
theorem held_any (m : MapS) (l at_ val : Int) (w : World) : Calls Try.prog 20 #[mapV m, .int .i64 l, .int .i64 at_, .int .i64 val] w fun e w' => e = .returned (.bool (heldB m l at_ val)) ∧ Keeps NoS w w' := by
  have h45 := lock45 m l
  obtain ⟨x, hx⟩ : ∃ x, lockP m l 4 = x := ⟨_, rfl⟩
  obtain ⟨y, hy⟩ : ∃ y, lockP m l 5 = y := ⟨_, rfl⟩
  unfold heldB
  rw [hx, hy] at h45
  rw [hx, hy]
  have HX := Lib.hid hx; have HY := Lib.hid hy
  have a1 := and_1 val
  have a63 := and_63 val
  have a0 := and_0 val
  have o1 : bits .or .i64 62 1 = 63 := by decide
  have o2 : bits .or .i64 0 1 = 1 := by decide
  clear hx hy
  obtain ⟨ms, ml, mt, mc, md⟩ := m
  unfold mapV; dsimp only
  by_cases h0 : at_ < 0
  · have hb : (decide (0 ≤ at_) && ((decide (at_ = y) && decide (val % 64 ≠ 0)) || (decide (at_ = x) && decide (val % 2 ≠ 0)))) = false := by rw [decide_eq_false (by omega)]; rfl
    rw [hb]
    clear hb h45
    go_enter Try.func20, Try.ntmps20
    go_wp2
    go_ret
    exact ⟨rfl, (Keeps.refl _ _).alloc _⟩
  · by_cases h5 : at_ = y
    · have hb : (decide (0 ≤ at_) && ((decide (at_ = y) && decide (val % 64 ≠ 0)) || (decide (at_ = x) && decide (val % 2 ≠ 0)))) = (val % 64 != 0) := by
        rw [decide_eq_true (show 0 ≤ at_ by omega), decide_eq_true h5, decide_eq_false (show ¬ at_ = x by omega), Bool.eq_iff_iff]; simp
      rw [hb]
      have e5 : (at_ == y) = true := by simpa using h5
      clear hb h45 h5
      go_enter Try.func20, Try.ntmps20
      go_wp2_with (first
        | (go_at_call 16; (with_reducible refine (lock_lit ms ml mt mc md l 4 x HX.out _).mono ?_); rintro e w1 ⟨rfl, hk1⟩)
        | (go_at_call 16; (with_reducible refine (lock_lit ms ml mt mc md l 5 y HY.out _).mono ?_); rintro e w2 ⟨rfl, hk2⟩))
      go_ret
      exact ⟨rfl, ((Keeps.refl NoS w).alloc _).trans hk2⟩
    · have e5 : (at_ == y) = false := beq_eq_false_iff_ne.2 h5
      by_cases h4 : at_ = x
      · have hb : (decide (0 ≤ at_) && ((decide (at_ = y) && decide (val % 64 ≠ 0)) || (decide (at_ = x) && decide (val % 2 ≠ 0)))) = (val % 2 != 0) := by
          rw [decide_eq_true (show 0 ≤ at_ by omega), decide_eq_false h5, decide_eq_true h4, Bool.eq_iff_iff]; simp
        rw [hb]
        have e4 : (at_ == x) = true := by simpa using h4
        clear hb h45 h5 h4
        go_enter Try.func20, Try.ntmps20
        go_wp2_with (first
          | (go_at_call 16; (with_reducible refine (lock_lit ms ml mt mc md l 4 x HX.out _).mono ?_); rintro e w1 ⟨rfl, hk1⟩)
          | (go_at_call 16; (with_reducible refine (lock_lit ms ml mt mc md l 5 y HY.out _).mono ?_); rintro e w2 ⟨rfl, hk2⟩; obtain ⟨b0, b1, b2, b3, b4, bz⟩ := box_cells hk2))
        go_ret
        exact ⟨rfl, (((Keeps.refl NoS w).alloc _).trans hk2).trans hk1⟩
      · have hb : (decide (0 ≤ at_) && ((decide (at_ = y) && decide (val % 64 ≠ 0)) || (decide (at_ = x) && decide (val % 2 ≠ 0)))) = false := by
          rw [decide_eq_false h5, decide_eq_false h4]; simp
        rw [hb]
        have e4 : (at_ == x) = false := beq_eq_false_iff_ne.2 h4
        clear hb h45 h5 h4
        go_enter Try.func20, Try.ntmps20
        go_wp2_with (first
          | (go_at_call 16; (with_reducible refine (lock_lit ms ml mt mc md l 4 x HX.out _).mono ?_); rintro e w1 ⟨rfl, hk1⟩)
          | (go_at_call 16; (with_reducible refine (lock_lit ms ml mt mc md l 5 y HY.out _).mono ?_); rintro e w2 ⟨rfl, hk2⟩; obtain ⟨b0, b1, b2, b3, b4, bz⟩ := box_cells hk2))
        go_ret
        exact ⟨rfl, (((Keeps.refl NoS w).alloc _).trans hk2).trans hk1⟩
set_option maxHeartbeats 400000 in
set_option maxRecDepth 100000 in
theorem rheld_any (m : MapS) (l at_ val : Int) (w : World) : Calls Try.prog 21 #[mapV m, .int .i64 l, .int .i64 at_, .int .i64 val] w fun e w' => e = .returned (.bool (heldB m l at_ val)) ∧ Keeps NoS w w' := by
  have h45 := lock45 m l
  obtain ⟨x, hx⟩ : ∃ x, lockP m l 4 = x := ⟨_, rfl⟩
  obtain ⟨y, hy⟩ : ∃ y, lockP m l 5 = y := ⟨_, rfl⟩
  unfold heldB
  rw [hx, hy] at h45
  rw [hx, hy]
  have HX := Lib.hid hx
  have a1 := and_1 val
  have a63 := and_63 val
  have hx2 : x ≤ 200 := by omega
  clear hx hy
  obtain ⟨ms, ml, mt, mc, md⟩ := m
  unfold mapV; dsimp only
  by_cases h0 : 0 ≤ x
  · obtain rfl : y = x + 1 := by omega
    have key : (decide (0 ≤ at_) && ((decide (at_ = x + 1) && decide (val % 64 ≠ 0)) || (decide (at_ = x) && decide (val % 2 ≠ 0)))) = ((at_ == x && val % 2 == 1) || (at_ == x + 1 && val % 64 != 0)) := by
      rw [Bool.eq_iff_iff]
      simp only [Bool.and_eq_true, Bool.or_eq_true, decide_eq_true_eq, bne_iff_ne, beq_iff_eq]
      omega
    rw [key]
    clear key h45
    cases e1 : (at_ == x) <;> cases e2 : (val % 2 == 1) <;> cases e3 : (at_ == x + 1) <;> cases e4 : (val % 64 != 0)
    all_goals
      go_enter Try.func21, Try.ntmps21
      go_wp2_with (go_at_call 32; refine (rlock_lit ms ml mt mc md l 4 x HX.out _).mono ?_; rintro e w1 ⟨rfl, hk1⟩)
      go_ret
      exact ⟨rfl, ((Keeps.refl NoS w).alloc _).trans hk1⟩
  · have key : (decide (0 ≤ at_) && ((decide (at_ = y) && decide (val % 64 ≠ 0)) || (decide (at_ = x) && decide (val % 2 ≠ 0)))) = false := by
      rw [Bool.eq_false_iff]
      simp only [ne_eq, Bool.and_eq_true, Bool.or_eq_true, decide_eq_true_eq]
      omega
    rw [key]
    clear key h45
    go_enter Try.func21, Try.ntmps21
    go_wp2_with (go_at_call 32; refine (rlock_lit ms ml mt mc md l 4 x HX.out _).mono ?_; rintro e w1 ⟨rfl, hk1⟩)
    go_ret
    exact ⟨rfl, ((Keeps.refl NoS w).alloc _).trans hk1⟩
/-- what is to be added where -/
def markP (m : MapS) (l : Int) (rd lv : Bool) : Int := if lockP m l 4 < 0 then -1 else if rd then lockP m l 5 else lockP m l 4
def markN (m : MapS) (l : Int) (rd lv : Bool) : Int := if lockP m l 4 < 0 then 0 else if rd then (if lv then -1 else 65) else 1
set_option maxHeartbeats 400000 in
set_option maxRecDepth 100000 in
theorem mark_any (m : MapS) (l : Int) (rd lv : Bool) (w : World) : Calls Try.prog 17 #[mapV m, .int .i64 l, .bool rd, .bool lv] w fun e w' => e = .returned (.tuple #[.int .i64 (markP m l rd lv), .int .i64 (markN m l rd lv)]) ∧ Keeps NoS w w' := by
  have h45 := lock45 m l
  obtain ⟨x, hx⟩ : ∃ x, lockP m l 4 = x := ⟨_, rfl⟩
  obtain ⟨y, hy⟩ : ∃ y, lockP m l 5 = y := ⟨_, rfl⟩
  unfold markP markN
  rw [hx, hy] at h45
  rw [hx, hy]
  have HX := Lib.hid hx; have HY := Lib.hid hy
  clear hx hy
  obtain ⟨ms, ml, mt, mc, md⟩ := m
  unfold mapV; dsimp only
  by_cases h0 : x < 0
  · have h1 : y < 0 := by omega
    rw [if_pos h0, if_pos h0]
    clear h45
    cases rd <;> cases lv
    all_goals
      go_enter Try.func17, Try.ntmps17
      go_wp2_with (first
        | (go_at_call 16; (with_reducible refine (lock_lit ms ml mt mc md l 4 x HX.out _).mono ?_); rintro e w1 ⟨rfl, hk1⟩)
        | (go_at_call 16; (with_reducible refine (lock_lit ms ml mt mc md l 5 y HY.out _).mono ?_); rintro e w1 ⟨rfl, hk1⟩))
      go_ret2
      exact ⟨rfl, ((Keeps.refl NoS w).alloc _).trans hk1⟩
  · have h1 : ¬ y < 0 := by omega
    rw [if_neg h0, if_neg h0]
    clear h45
    cases rd <;> cases lv
    all_goals
      go_enter Try.func17, Try.ntmps17
      go_wp2_with (first
        | (go_at_call 16; (with_reducible refine (lock_lit ms ml mt mc md l 4 x HX.out _).mono ?_); rintro e w1 ⟨rfl, hk1⟩)
        | (go_at_call 16; (with_reducible refine (lock_lit ms ml mt mc md l 5 y HY.out _).mono ?_); rintro e w1 ⟨rfl, hk1⟩))
      go_ret2
      exact ⟨rfl, ((Keeps.refl NoS w).alloc _).trans hk1⟩
set_option maxHeartbeats 400000 in
set_option maxRecDepth 100000 in
theorem rmark_any (m : MapS) (l : Int) (rd lv : Bool) (w : World) : Calls Try.prog 18 #[mapV m, .int .i64 l, .bool rd, .bool lv] w fun e w' => e = .returned (.tuple #[.int .i64 (markP m l rd lv), .int .i64 (markN m l rd lv)]) ∧ Keeps NoS w w' := by
  have h45 := lock45 m l
  obtain ⟨x, hx⟩ : ∃ x, lockP m l 4 = x := ⟨_, rfl⟩
  obtain ⟨y, hy⟩ : ∃ y, lockP m l 5 = y := ⟨_, rfl⟩
  unfold markP markN
  rw [hx, hy] at h45
  rw [hx, hy]
  have HX := Lib.hid hx
  clear hx hy
  obtain ⟨ms, ml, mt, mc, md⟩ := m
  unfold mapV; dsimp only
  by_cases h0 : x < 0
  · rw [if_pos h0, if_pos h0]
    clear h45
    go_enter Try.func18, Try.ntmps18
    go_wp2_with (go_at_call 32; refine (rlock_lit ms ml mt mc md l 4 x HX.out _).mono ?_; rintro e w1 ⟨rfl, hk1⟩)
    go_ret2
    exact ⟨rfl, ((Keeps.refl NoS w).alloc _).trans hk1⟩
  · obtain rfl : y = x + 1 := by omega
    have hx2 : x ≤ 200 := by omega
    rw [if_neg h0, if_neg h0]
    clear h45
    cases rd <;> cases lv
    all_goals
      go_enter Try.func18, Try.ntmps18
      go_wp2_with (go_at_call 32; refine (rlock_lit ms ml mt mc md l 4 x HX.out _).mono ?_; rintro e w1 ⟨rfl, hk1⟩)
      go_ret2
      exact ⟨rfl, ((Keeps.refl NoS w).alloc _).trans hk1⟩
theorem ref_any (m : MapS) (w : World) : Calls Try.prog 12 #[mapV m] w fun e w' => e = .returned (mapV m) ∧ Keeps NoS w w' := by
  obtain ⟨ms, ml, mt, mc, md⟩ := m
  unfold mapV; dsimp only
  go_enter Try.func12, Try.ntmps12
  go_wp2
  refine bodyPost_ret (v := .agg #[.int .i64 ms, .int .i64 ml, .int .i64 mt, .int .i64 mc, .int .i64 md]) (by simp [results, Try.results12, go_sem]) rfl ⟨rfl, ?_⟩
  exact ((Keeps.refl NoS w).alloc _).alloc _
/-- a map that may be, near any numbers -/
def nearM (k : List Int) : MapS := ⟨1 + (IntKind.u64.wrap (k.getD 0 0)).tmod 16, (IntKind.u64.wrap (k.getD 1 0)).tmod 5, 1 + (IntKind.u64.wrap (k.getD 2 0)).tmod 4, (IntKind.u64.wrap (k.getD 3 0)).tmod 5, (IntKind.u64.wrap (k.getD 4 0)).tmod 33⟩
theorem nearM_may (k : List Int) : May (nearM k) := by
  obtain ⟨a1, a2⟩ := u64_tmod_bd (k.getD 0 0) 16 (by decide)
  obtain ⟨b1, b2⟩ := u64_tmod_bd (k.getD 1 0) 5 (by decide)
  obtain ⟨c1, c2⟩ := u64_tmod_bd (k.getD 2 0) 4 (by decide)
  obtain ⟨d1, d2⟩ := u64_tmod_bd (k.getD 3 0) 5 (by decide)
  obtain ⟨e1, e2⟩ := u64_tmod_bd (k.getD 4 0) 33 (by decide)
  constructor <;> simp only [nearM] <;> omega
theorem nums5 (k : List Int) (h : k.length = 5) : nums k = #[.int .i64 (k.getD 0 0), .int .i64 (k.getD 1 0), .int .i64 (k.getD 2 0), .int .i64 (k.getD 3 0), .int .i64 (k.getD 4 0)] := by
  match k, h with
  | [a, b, c, d, e], _ => rfl
set_option maxRecDepth 100000 in
theorem nearm_any (k : List Int) (h : k.length = 5) (w : World) : Calls Try.prog 8 #[.agg (nums k)] w fun e w' => e = .returned (mapV (nearM k)) ∧ Keeps NoS w w' := by
  rw [nums5 k h]
  unfold mapV nearM
  dsimp only
  obtain ⟨a1, a2⟩ := u64_tmod_bd (k.getD 0 0) 16 (by decide)
  obtain ⟨b1, b2⟩ := u64_tmod_bd (k.getD 1 0) 5 (by decide)
  obtain ⟨c1, c2⟩ := u64_tmod_bd (k.getD 2 0) 4 (by decide)
  obtain ⟨d1, d2⟩ := u64_tmod_bd (k.getD 3 0) 5 (by decide)
  obtain ⟨e1, e2⟩ := u64_tmod_bd (k.getD 4 0) 33 (by decide)
  generalize k.getD 0 0 = k0 at *
  generalize k.getD 1 0 = k1 at *
  generalize k.getD 2 0 = k2 at *
  generalize k.getD 3 0 = k3 at *
  generalize k.getD 4 0 = k4 at *
  go_enter Try.func8, Try.ntmps8
  go_wp2
  refine bodyPost_ret (v := .agg #[.int .i64 (1 + (IntKind.u64.wrap k0).tmod 16), .int .i64 ((IntKind.u64.wrap k1).tmod 5), .int .i64 (1 + (IntKind.u64.wrap k2).tmod 4), .int .i64 ((IntKind.u64.wrap k3).tmod 5), .int .i64 ((IntKind.u64.wrap k4).tmod 33)]) (by simp [results, Try.results8, go_sem]) rfl ⟨rfl, ?_⟩
  exact ((Keeps.refl NoS w).alloc _).alloc _
theorem map8_any (w : World) : Calls Try.prog 22 #[] w fun e w' => e = .returned (mapV ⟨2, 2, 4, 0, 2⟩) ∧ Keeps NoS w w' := by
  go_enter Try.func22, Try.ntmps22
  go_wp2
  refine bodyPost_ret (v := .agg #[.int .i64 2, .int .i64 2, .int .i64 4, .int .i64 0, .int .i64 2]) (by simp [results, Try.results22, go_sem]) rfl ⟨rfl, ?_⟩
  exact (Keeps.refl NoS w).alloc _
end Go.Proofs.Ytiomicjfbbkbaaa
