/- writes.Set: Put, Get and the rest. -/
import Derived.Test.YtfmamedkiaimpaaWrites
import Derived.StillTailTactics
namespace Go.Proofs.Ytfmamedkiaimpaa
open Go.RowKit
theorem wput_nil (k x : Int) (w : World) : Calls Try.prog 82 #[.pointer none, .int .i64 k, .int .i64 x] w fun e w' => e = .returned (.bool false) ∧ w = w' := by
  go_enter Try.func82, Try.ntmps82
  go_wp2
  go_ret
  exact ⟨rfl, rfl⟩
theorem wput_neg (a : Nat) (k x : Int) (w : World) (h : k < 0) : Calls Try.prog 82 #[.pointer (some ⟨a, 0, none⟩), .int .i64 k, .int .i64 x] w fun e w' => e = .returned (.bool false) ∧ w = w' := by
  go_enter Try.func82, Try.ntmps82
  go_wp2
  go_ret
  exact ⟨rfl, rfl⟩
theorem findL_eq_neg (l : List (Int × Int)) (k : Int) (h : hasKey l k = false) : findL l k = -1 :=
  findL_none l k fun x hx e => by
    have : hasKey l k = true := by simp only [hasKey, List.any_eq_true]; exact ⟨x, hx, by simpa using e⟩
    rw [h] at this; cases this
theorem findL_at (l : List (Int × Int)) (k : Int) (h : hasKey l k = true) : ∃ i : Nat, findL l k = (i : Int) ∧ i < l.length ∧ (l.getD i (0, 0)).1 = k := by
  have h0 := (findL_has l k).1.2 h
  unfold findL at h0 ⊢
  cases hf : l.findIdx? (fun x => x.1 == k) with
  | none => rw [hf] at h0; simp at h0
  | some i =>
    obtain ⟨hi, hx, _⟩ := List.findIdx?_eq_some_iff_getElem.1 hf
    exact ⟨i, rfl, hi, by rw [getD_at _ _ _ hi]; simpa using hx⟩
theorem wput_full (a : Nat) (v : Value) (room asked : Int) (l : List (Int × Int)) (k x : Int) (w : World) (hs : WrAt w a v room l asked) (h0 : 0 ≤ k) (h : hasKey l k = false) (h2 : room ≤ (l.length : Int)) :
    Calls Try.prog 82 #[.pointer (some ⟨a, 0, none⟩), .int .i64 k, .int .i64 x] w fun e w' => e = .returned (.bool false) ∧ Keeps NoS w w' := by
  have hf := findL_eq_neg l k h
  have hsm := hs.small
  have HF := Lib.hid hf
  clear h hf
  go_enter Try.func82, Try.ntmps82
  go_wp2_with (go_at_call 79; refine (wfind_any a v room asked l k _ hs).mono ?_; rw [HF.out]; rintro e w1 ⟨rfl, hk1⟩; have hs1 := hs.keep hk1 (fun f => f) (fun _ _ f => f); obtain ⟨c0, c1, _, _⟩ := hs1.cells; obtain ⟨p, c, rfl⟩ := hs1.slice)
  go_quiet (fail)
  go_wp2
  go_ret
  exact ⟨rfl, (hk1.drewN _)⟩

theorem filterOf_map (l : List (Int × Int)) : filterOf l = (l.map Prod.fst).foldl (fun f k => f ||| bitAt k) 0 := by
  rw [filterOf, List.foldl_map]
theorem filterOf_set (l : List (Int × Int)) (i : Nat) (k x : Int) (hi : i < l.length) (h : (l.getD i (0, 0)).1 = k) : filterOf (l.set i (k, x)) = filterOf l := by
  rw [filterOf_map, filterOf_map, List.map_set]
  congr 1
  rw [getD_at _ _ _ hi] at h
  apply List.ext_getElem (by simp)
  intro j h1 h2
  rw [List.getElem_set]
  split
  · next e => subst e; simp [h]
  · rfl
theorem flat_set (l : List (Int × Int)) (i : Nat) (k x : Int) (hi : i < l.length) (h : (l.getD i (0, 0)).1 = k) : flat (l.set i (k, x)) = (flat l).set (i * 2 + 1) (.int .i64 x) := by
  apply List.ext_getElem?
  intro j
  rw [List.getElem?_set]
  have hlen : (l.set i (k, x)).length = l.length := by simp
  by_cases hj : j < l.length * 2
  · obtain ⟨m, hm⟩ : ∃ m, m = j / 2 := ⟨_, rfl⟩
    have hml : m < l.length := by omega
    have f1 := flat_at (l.set i (k, x)) m (by omega)
    have f2 := flat_at l m hml
    have hg : (l.set i (k, x)).getD m (0, 0) = if i = m then (k, x) else l.getD m (0, 0) := by
      rw [getD_at _ _ _ (by omega), getD_at _ _ _ hml, List.getElem_set]
    rw [hg] at f1
    rcases Nat.mod_two_eq_zero_or_one j with hp | hp
    · have e : j = m * 2 := by omega
      clear hm
      subst e
      rw [f1.1, if_neg (show ¬ i * 2 + 1 = m * 2 by omega), f2.1]
      by_cases e : i = m
      · subst e; rw [if_pos rfl, h]
      · rw [if_neg e]
    · have e : j = m * 2 + 1 := by omega
      clear hm
      subst e
      rw [f1.2, f2.2]
      by_cases e : i = m
      · subst e; rw [if_pos rfl, if_pos rfl, if_pos (by rw [flat_len]; omega)]
      · rw [if_neg e, if_neg (by omega)]
  · rw [List.getElem?_eq_none (by rw [flat_len, hlen]; omega), List.getElem?_eq_none (l := flat l) (by rw [flat_len]; omega)]
    rw [if_neg (by omega)]
theorem WrAt.stored {w : World} {a g n c : Nat} {room asked : Int} {l : List (Int × Int)} (h : WrAt w a (.slice (some ⟨g, 0, none⟩) n c) room l asked) (i : Nat) (k x : Int) (hi : i < l.length) (hk : (l.getD i (0, 0)).1 = k) :
    WrAt (w.setCell ⟨g, i * 2 + 1, none⟩ (.int .i64 x)) a (.slice (some ⟨g, 0, none⟩) n c) room (l.set i (k, x)) asked := by
  have hn : n = l.length := by
    obtain ⟨p, c', hv⟩ := h.slice
    simp only [Value.slice.injEq] at hv
    exact hv.2.1
  subst hn
  have hga : g ≠ a := fun e => h.ne (by rw [e]; rfl)
  refine ⟨?_, ?_, h.ne, by simpa using h.small⟩
  · rw [Below.heap_setCell _ _ _ _ (fun e => hga e.symm), filterOf_set l i k x hi hk]; exact h.hd
  · have := (h.ow.stored (i * 2 + 1) (.int .i64 x)).1
    rw [flat_set l i k x hi hk, List.length_set]
    exact this
theorem wput_has (a : Nat) (v : Value) (room asked : Int) (l : List (Int × Int)) (k x : Int) (w : World) (hs : WrAt w a v room l asked) (h0 : 0 ≤ k) (h : hasKey l k = true) :
    Calls Try.prog 82 #[.pointer (some ⟨a, 0, none⟩), .int .i64 k, .int .i64 x] w fun e w' => e = .returned (.bool true) ∧ WrAt w' a v room (l.set (findL l k).toNat (k, x)) asked ∧ Keeps (own2 a v) w w' := by
  obtain ⟨i, hf, hi, hk⟩ := findL_at l k h
  have hsm := hs.small
  rw [hf]
  have HF := Lib.hid hf
  clear h hf
  rcases owns_words hs.ow with ⟨rfl, rfl⟩ | ⟨g, cap, rfl, hgs, hfr, _⟩
  · simp at hi
  clear hfr
  have HK := Lib.hid hk
  clear hk
  go_enter Try.func82, Try.ntmps82
  go_wp2_with (go_at_call 79; refine (wfind_any a _ room asked l k _ hs).mono ?_; rw [HF.out]; rintro e w1 ⟨rfl, hk1⟩; have hs1 := hs.keep hk1 (fun f => f) (fun _ _ f => f); obtain ⟨c0, c1, _, _⟩ := hs1.cells; rcases owns_words hs1.ow with ⟨hv1, _⟩ | ⟨g1, cap1, hv1, hgs1, hfr1, hcell1⟩; (cases hv1); simp only [Value.slice.injEq, Option.some.injEq, Addr.mk.injEq, and_true, true_and] at hv1; obtain ⟨rfl, rfl⟩ := hv1; have e1 := (hcell1 i hi).2; have e2 := hfr1 (i * 2 + 1); clear hcell1 hfr1 c0)
  go_ret
  refine ⟨rfl, ?_, ?_⟩
  · rw [Int.toNat_natCast]
    exact hs1.stored i k x hi HK.out
  · exact hk1.no.setCell (p := ⟨g, i * 2 + 1, none⟩) (fun _ => .inr rfl) _

theorem wr_put {w w3 : World} {a : Nat} {v v' : Value} {room asked : Int} {l : List (Int × Int)} {k x : Int} {o : Obj} (hs : WrAt w a v room l asked) (hsm : l.length < 4096)
    (hown : w3.ownsRow 0 54 2 v' (l.length + 1) (flat l ++ [.int .i64 k, .int .i64 x])) (hgr : (w.alloc o).grownBy w3 v.ownBlock) (hob : ∀ g, v'.ownBlock = some g → v.ownBlock = some g ∨ g = (w.alloc o).heap.size) :
    WrAt ((w3.setCell ⟨a, 1, none⟩ v').setCell ⟨a, 2, none⟩ (.int .u64 (filterOf (l ++ [(k, x)]) : Int))) a v' room (l ++ [(k, x)]) asked ∧ Keeps (own2 a v) w (w3.setCell ⟨a, 1, none⟩ v') ∧
      (∀ g, v'.ownBlock = some g → v.ownBlock = some g ∨ w.heap.size ≤ g) ∧ (w3.setCell ⟨a, 1, none⟩ v').heap[a]? = some (.cells #[.int .i64 room, v', .int .u64 (filterOf l : Int), .int .i64 asked] 105 (0, 0)) ∧
      w3.heap[a]? = some (.cells #[.int .i64 room, v, .int .u64 (filterOf l : Int), .int .i64 asked] 105 (0, 0)) := by
  have ha : w3.heap[a]? = some (.cells #[.int .i64 room, v, .int .u64 (filterOf l : Int), .int .i64 asked] 105 (0, 0)) := by
    rw [hgr.block a (by have := blk_lt hs.hd; simp; omega) (fun e => hs.ne e.symm), Below.heap_alloc _ _ _ (blk_lt hs.hd)]
    exact hs.hd
  have hne : v'.ownBlock ≠ some a := fun e => by
    rcases hob a e with h | h
    · exact hs.ne h
    · have := blk_lt hs.hd; simp at h; omega
  have hb := blk_set ha 1 v'
  refine ⟨⟨by rw [blk_set hb]; rfl, ?_, hne, by simp; omega⟩, ?_, fun g hg => ?_, hb, ha⟩
  · rw [flat_snoc, List.length_append]
    exact owns_setCell (owns_setCell hown hne _) hne _
  · exact (((Keeps.refl _ _).alloc _).grown hgr (fun k hk _ => .inr hk)).setCell (fun _ => .inl rfl) _
  · rcases hob g hg with h | h
    · exact .inl h
    · right; simp at h; omega
theorem bit_same (k : Int) (w : World) : Calls Try.prog 78 #[.int .i64 k] w fun e w' => e = .returned (.int .u64 (bitAt k : Int)) ∧ w' = w := (bit_any k w).mono fun _ _ ⟨h, h2⟩ => ⟨h, h2.symm⟩
set_option maxHeartbeats 400000 in
set_option maxRecDepth 100000 in
theorem wput_new (a : Nat) (v : Value) (room asked : Int) (l : List (Int × Int)) (k x : Int) (w : World) (hs : WrAt w a v room l asked) (h0 : 0 ≤ k) (h : hasKey l k = false) (h2 : (l.length : Int) < room) (hsm : l.length < 4096) :
    Calls Try.prog 82 #[.pointer (some ⟨a, 0, none⟩), .int .i64 k, .int .i64 x] w fun e w' => e = .returned (.bool true) ∧
      ∃ v', WrAt w' a v' room (l ++ [(k, x)]) asked ∧ Keeps (own2 a v) w w' ∧ ∀ g, v'.ownBlock = some g → v.ownBlock = some g ∨ w.heap.size ≤ g := by
  have hf := findL_eq_neg l k h
  have HF := Lib.hid hf
  have hor : bits .or .u64 (filterOf l : Int) (bitAt k : Int) = (filterOf (l ++ [(k, x)]) : Int) := by
    rw [filterOf_snoc, bits_u64_or _ _ (filterOf_lt l) (bitAt_lt k)]
  clear h hf
  obtain ⟨i0, hi, hz0, hz1, hz2⟩ := info_parts infoWord
  go_enter Try.func82, Try.ntmps82
  go_wp2_with (go_at_call 79; refine (wfind_any a v room asked l k _ hs).mono ?_; rw [HF.out]; rintro e w1 ⟨rfl, hk1⟩; have hs1 := hs.keep hk1 (fun f => f) (fun _ _ f => f); obtain ⟨c0, c1, _, _⟩ := hs1.cells; obtain ⟨p, c, rfl⟩ := hs1.slice)
  go_quiet (fail)
  have hsd := hs1.keep ((Keeps.refl NoS _).drewN nq) (fun f => f) (fun _ _ f => f)
  have d2 : ∀ u ∈ [Value.int .i64 k, .int .i64 x], u.oneCell' = true := by simp [Value.oneCell']
  have b3 : l.length + 1 ≤ maxLen := by unfold maxLen; omega
  go_wp2_with (at_builtin; go_loud (refine wpList_append_fp _ rfl _ _ 43 rfl 54 i0 (.agg #[.int .i64 0, .int .i64 0]) 2 16 Try.underlying43 hi hz0 hz1 hz2 rfl (by decide) (.slice p l.length c) l.length (flat l) rfl (hsd.ow.alloc _) ⟨_, 0, none⟩ 1 1 [.int .i64 k, .int .i64 x] rfl rfl (cells_new _ _ _) d2 b3 (by omega) ?_); intro v' w3 hown hgr hob; go_loud (have hput := wr_put hsd hsm hown hgr hob; have e0 := hput.2.2.2.2; have e1 : w3.cell? ⟨a, 1, none⟩ = some (.slice p l.length c) := (by rw [blk_cell e0]; rfl); have e2 := blk_free e0 1; obtain ⟨p', c', rfl⟩ := owns_slice hown; clear e0 hown hgr hob))
  have g0 := hput.2.2.2.1
  have g1 : (w3.setCell ⟨a, 1, none⟩ (.slice p' (l.length + 1) c')).cell? ⟨a, 2, none⟩ = some (.int .u64 (filterOf l : Int)) := by rw [blk_cell g0]; rfl
  have g2 := blk_free g0 2
  have HP := Lib.hid hput
  clear hput g0
  refine wp_region_still_tail 9 (by kernel_rfl) (by kernel_rfl) ?_
  obtain ⟨w4, hw4⟩ : ∃ w4, w4 = ({ heap := (w3.setCell ⟨a, 1, none⟩ (.slice p' (l.length + 1) c')).heap, tape := (w3.setCell ⟨a, 1, none⟩ (.slice p' (l.length + 1) c')).tape, drawn := (w3.setCell ⟨a, 1, none⟩ (.slice p' (l.length + 1) c')).drawn + 1, os := (w3.setCell ⟨a, 1, none⟩ (.slice p' (l.length + 1) c')).os, output := (w3.setCell ⟨a, 1, none⟩ (.slice p' (l.length + 1) c')).output } : World) := ⟨_, rfl⟩
  have g3 : w4.frozen? ⟨a, 2, none⟩ = false := by rw [hw4]; exact g2
  have g4 : w4.cell? ⟨a, 2, none⟩ = some (.int .u64 (filterOf l : Int)) := by rw [hw4]; exact g1
  rw [← hw4]
  have HW := Lib.hid hw4
  clear hw4 g1 g2
  simp only [List.take_succ_cons, List.take_zero, List.drop_succ_cons, List.drop_zero]
  repeat still_step
  still_call (bit_same k _)
  repeat still_step
  refine wpStill_nil ?_
  go_wp2
  go_ret
  rw [HW.out]
  refine ⟨rfl, _, (HP.out.1).keep ((Keeps.refl NoS _).drew) (fun f => f) (fun _ _ f => f), ?_, fun g hg => (HP.out.2.2.1 g hg).imp id (fun h => Nat.le_trans hk1.size h)⟩
  exact ((((hk1.no.trans ((Keeps.refl _ _).drewN nq)).trans HP.out.2.1).setCell (p := ⟨a, 2, none⟩) (fun _ => .inl rfl) _).drew)

/-- what Put leaves -/
def putW (room : Int) (l : List (Int × Int)) (k x : Int) : List (Int × Int) :=
  if k < 0 then l else if hasKey l k then l.set (findL l k).toNat (k, x) else if (l.length : Int) < room then l ++ [(k, x)] else l
/-- what Put tells -/
def putOk (room : Int) (l : List (Int × Int)) (k : Int) : Bool := decide (0 ≤ k) && (hasKey l k || decide ((l.length : Int) < room))
theorem wput_any (a : Nat) (v : Value) (room asked : Int) (l : List (Int × Int)) (k x : Int) (w : World) (hs : WrAt w a v room l asked) (hsm : l.length < 4096) :
    Calls Try.prog 82 #[.pointer (some ⟨a, 0, none⟩), .int .i64 k, .int .i64 x] w fun e w' => e = .returned (.bool (putOk room l k)) ∧
      ∃ v', WrAt w' a v' room (putW room l k x) asked ∧ Keeps (own2 a v) w w' ∧ ∀ g, v'.ownBlock = some g → v.ownBlock = some g ∨ w.heap.size ≤ g := by
  by_cases h0 : k < 0
  · rw [show putOk room l k = false by simp [putOk]; omega, show putW room l k x = l by simp [putW, h0]]
    exact (wput_neg a k x w h0).mono fun e w' ⟨he, hw⟩ => by subst hw; exact ⟨he, v, hs, Keeps.refl _ _, fun g hg => .inl hg⟩
  · cases hk : hasKey l k with
    | true =>
      rw [show putOk room l k = true by simp [putOk, hk]; omega, show putW room l k x = l.set (findL l k).toNat (k, x) by simp [putW, hk, h0]]
      exact (wput_has a v room asked l k x w hs (by omega) hk).mono fun e w' ⟨he, hw, hkp⟩ => ⟨he, v, hw, hkp, fun g hg => .inl hg⟩
    | false =>
      by_cases hr : (l.length : Int) < room
      · rw [show putOk room l k = true by simp [putOk, hr]; omega, show putW room l k x = l ++ [(k, x)] by simp [putW, hk, h0, hr]]
        exact wput_new a v room asked l k x w hs (by omega) hk hr hsm
      · rw [show putOk room l k = false by simp [putOk, hk, hr], show putW room l k x = l by simp [putW, hk, h0, hr]]
        exact (wput_full a v room asked l k x w hs (by omega) hk (by omega)).mono fun e w' ⟨he, hw⟩ => ⟨he, v, hs.keep hw (fun f => f) (fun _ _ f => f), hw.no, fun g hg => .inl hg⟩

end Go.Proofs.Ytfmamedkiaimpaa
