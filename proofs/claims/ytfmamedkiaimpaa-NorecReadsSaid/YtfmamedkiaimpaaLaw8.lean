/- Layer 8's frame: the map of the laws, both memories, Like; hands. -/
import Derived.Test.YtfmamedkiaimpaaPlaceFind
import Derived.Test.YtfmamedkiaimpaaMemTot
import Derived.Test.YtfmamedkiaimpaaIn2
import Derived.Deep.RegionHeld3
import Derived.Deep.DeepCutAuto
namespace Go.Proofs.Ytfmamedkiaimpaa
open Go.RowKit
theorem ref_any (m : MapS) (w : World) : Calls Try.prog 34 #[mapV m] w fun e w' => e = .returned (mapV m) ∧ Keeps NoS w w' := by
  obtain ⟨ms, ml, mt, mc, md⟩ := m
  unfold mapV; dsimp only
  go_enter Try.func34, Try.ntmps34
  go_wp2
  refine bodyPost_ret (v := .agg #[.int .i64 ms, .int .i64 ml, .int .i64 mt, .int .i64 mc, .int .i64 md]) (by simp [results, Try.results34, go_sem]) rfl ⟨rfl, ?_⟩
  exact ((Keeps.refl NoS w).alloc _).alloc _
/-- a map in a block of its own -/
def MapAt (w : World) (b : Nat) (ms ml mt mc md : Int) : Prop := w.cell? ⟨b, 0, none⟩ = some (.int .i64 ms) ∧ w.cell? ⟨b, 1, none⟩ = some (.int .i64 ml) ∧ w.cell? ⟨b, 2, none⟩ = some (.int .i64 mt) ∧ w.cell? ⟨b, 3, none⟩ = some (.int .i64 mc) ∧ w.cell? ⟨b, 4, none⟩ = some (.int .i64 md)
theorem MapAt.keep {S : Nat → Prop} {w w' : World} {b : Nat} {ms ml mt mc md : Int} (h : MapAt w b ms ml mt mc md) (k : Keeps S w w') (hb : ¬ S b) : MapAt w' b ms ml mt mc md :=
  ⟨k.cell h.1 hb, k.cell h.2.1 hb, k.cell h.2.2.1 hb, k.cell h.2.2.2.1 hb, k.cell h.2.2.2.2 hb⟩
theorem mapAt_new (w : World) (ms ml mt mc md : Int) (t : TypeId) : MapAt (w.alloc (.cells #[.int .i64 ms, .int .i64 ml, .int .i64 mt, .int .i64 mc, .int .i64 md] t)) w.heap.size ms ml mt mc md := by
  refine ⟨?_, ?_, ?_, ?_, ?_⟩ <;> rw [blk_cell (heap_alloc_new _ _)] <;> rfl
abbrev TwoR := TwoT 86 97
theorem made_zeros (w : World) (g n : Nat) (h : w.ownsRow 0 2 1 (.slice (some ⟨g, 0, none⟩) n n) n (madeCells (Value.int .i64 0).cells (n * 1)).toList) : ∀ k, k < n → w.cell? ⟨g, 0 + k, none⟩ = some (.int .i64 ((List.replicate n 0).getD k 0)) := by
  intro k hk
  have e : (madeCells (Value.int .i64 0).cells (n * 1)).toList[k]? = some (.int .i64 0) := by
    have hs : (Value.int .i64 0).cells = #[.int .i64 0] := rfl
    unfold madeCells
    simp [hs, hk, Nat.mod_one]
  have := h.cells (g := g) rfl k _ e
  rw [add_zero_off] at this
  rw [Nat.zero_add, this]
  simp [List.getD_eq_getElem?_getD, hk]
theorem new_someN (b off c n : Nat) (zs : List Int) (w : World) (hl : zs.length = n) (h0 : 0 < n) (h1 : n ≤ 4096) (hc : ∀ k, k < n → w.cell? ⟨b, off + k, none⟩ = some (.int .i64 (zs.getD k 0))) :
    Calls Try.prog 35 #[.slice (some ⟨b, off, none⟩) n c] w fun e w' => ∃ a v, e = .returned (.pointer (some ⟨a, 0, none⟩)) ∧ MemAt w' a v (MemS.new zs) ∧ w.heap.size ≤ a ∧ (∀ g, v.ownBlock = some g → w.heap.size ≤ g) ∧ Keeps NoS w w' := by
  subst hl
  exact new_some b off c zs w h0 h1 hc
theorem rnew_someN (b off c n : Nat) (zs : List Int) (w : World) (hl : zs.length = n) (h0 : 0 < n) (h1 : n ≤ 4096) (hc : ∀ k, k < n → w.cell? ⟨b, off + k, none⟩ = some (.int .i64 (zs.getD k 0))) :
    Calls Try.prog 36 #[.slice (some ⟨b, off, none⟩) n c] w fun e w' => ∃ a v, e = .returned (.pointer (some ⟨a, 0, none⟩)) ∧ RefAt w' a v (MemS.new zs) ∧ w.heap.size ≤ a ∧ (∀ g, v.ownBlock = some g → w.heap.size ≤ g) ∧ Keeps NoS w w' := by
  subst hl
  exact rnew_some b off c zs w h0 h1 hc
/-- n words, all 0 -/
def M0 (n : Nat) : MemS := MemS.new (List.replicate n 0)
theorem M0_len (n : Nat) : (M0 n).L.length = n := by simp [M0, MemS.new]
set_option maxHeartbeats 400000 in
set_option maxRecDepth 100000 in
theorem both_any (ms ml mt mc md : Int) (n : Nat) (hn : sizeP ⟨ms, ml, mt, mc, md⟩ = (n : Int)) (h0 : 0 < n) (h1 : n ≤ 4096) (w : World) :
    Calls Try.prog 10 #[.agg #[.int .i64 ms, .int .i64 ml, .int .i64 mt, .int .i64 mc, .int .i64 md]] w fun e w' => ∃ a c v u, e = .returned (.tuple #[.pointer (some ⟨a, 0, none⟩), .pointer (some ⟨c, 0, none⟩)]) ∧ TwoR w w' a c v u (M0 n) (M0 n) := by
  have HN := Lib.hid hn
  obtain ⟨i0, hi, hz0, hz1, hz2⟩ := info_parts infoI64
  have m1 : i0.bytes * n ≤ 281474976710656 := by rw [hz2]; omega
  have m2 : n ≤ maxLen := by unfold maxLen; omega
  clear hn
  go_enter Try.func10, Try.ntmps10
  go_wp2_with fail
  refine (ref_any ⟨ms, ml, mt, mc, md⟩ _).mono ?_
  rintro e w1 ⟨rfl, hk1⟩
  unfold mapV
  dsimp only
  go_wp2_with (first
    | (go_at_call 33; refine (rsize_lit ms ml mt mc md _ HN.out _).mono ?_; rintro e w2 ⟨rfl, hk2⟩)
    | (refine wpList_make_full _ rfl _ _ 24 rfl 0 2 i0 (.int .i64 0) 1 Try.underlying24 hi hz0 hz1 .i64 .i64 _ _ n rfl rfl rfl rfl m1 m2 (Nat.zero_le _) ?_; intro w3 hown hgr; have hz := made_zeros w3 _ n hown; have hk3 : Keeps NoS w w3 := ((((Keeps.refl NoS w).alloc _).trans hk1).trans hk2).grown hgr (fun k hk => by cases hk))
    | (go_at_call 35; refine (new_someN w2.heap.size 0 n n (List.replicate n 0) w3 (by simp) h0 h1 hz).mono ?_; rintro e w4 ⟨a, v, rfl, hm, ha, hv, hk⟩; have h4 := fresh_in hk3 hm ha hv hk; have hz4 := fun k (hkn : k < n) => hk.cell (hz k hkn) (fun f => f); clear hm ha hv hk)
    | (go_at_call 36; refine (rnew_someN w2.heap.size 0 n n (List.replicate n 0) w4 (by simp) h0 h1 hz4).mono ?_; rintro e w5 ⟨c, u, rfl, hm, ha, hv, hk⟩; have h5 := TwoT.make h4 hm ha hv hk))
  go_ret2
  exact ⟨a, c, v, u, rfl, h5⟩
theorem MemT.allCells {T : TypeId} {w : World} {a : Nat} {v : Value} {M : MemS} (h : MemT T w a v M) :
    w.cell? ⟨a, 1, none⟩ = some (.int .i64 M.st) ∧ w.cell? ⟨a, 2, none⟩ = some (.int .i64 M.last.k) ∧ w.cell? ⟨a, 3, none⟩ = some (.int .i64 M.last.at_) ∧ w.cell? ⟨a, 4, none⟩ = some (.int .i64 M.last.val) ∧ w.cell? ⟨a, 5, none⟩ = some (.int .i64 M.last.saw) ∧ w.cell? ⟨a, 6, none⟩ = some (.bool M.last.done) :=
  ⟨by rw [blk_cell h.hd]; rfl, by rw [blk_cell h.hd]; rfl, by rw [blk_cell h.hd]; rfl, by rw [blk_cell h.hd]; rfl, by rw [blk_cell h.hd]; rfl, by rw [blk_cell h.hd]; rfl⟩
/-- a hand -/
structure HandS where
  t : Int
  l : Int
  s : Int
  r : Bool
  x : Int
def handV (h : HandS) : Value := .agg #[.int .i64 h.t, .int .i64 h.l, .int .i64 h.s, .bool h.r, .int .i64 h.x]
/-- a hand in a block of its own -/
def HandAt (w : World) (T : TypeId) (b : Nat) (t l s : Int) (r : Bool) (x : Int) : Prop := w.heap[b]? = some (.cells #[.int .i64 t, .int .i64 l, .int .i64 s, .bool r, .int .i64 x] T (0, 0))
theorem HandAt.cells {w : World} {T : TypeId} {b : Nat} {t l s : Int} {r : Bool} {x : Int} (h : HandAt w T b t l s r x) :
    w.cell? ⟨b, 0, none⟩ = some (.int .i64 t) ∧ w.cell? ⟨b, 1, none⟩ = some (.int .i64 l) ∧ w.cell? ⟨b, 2, none⟩ = some (.int .i64 s) ∧ w.cell? ⟨b, 3, none⟩ = some (.bool r) ∧ w.cell? ⟨b, 4, none⟩ = some (.int .i64 x) ∧
    w.frozen? ⟨b, 0, none⟩ = false ∧ w.frozen? ⟨b, 1, none⟩ = false ∧ w.frozen? ⟨b, 2, none⟩ = false ∧ w.frozen? ⟨b, 3, none⟩ = false ∧ w.frozen? ⟨b, 4, none⟩ = false ∧ b < w.heap.size :=
  ⟨by rw [blk_cell h]; rfl, by rw [blk_cell h]; rfl, by rw [blk_cell h]; rfl, by rw [blk_cell h]; rfl, by rw [blk_cell h]; rfl, blk_free h 0, blk_free h 1, blk_free h 2, blk_free h 3, blk_free h 4, blk_lt h⟩
theorem HandAt.keep {S : Nat → Prop} {w w' : World} {T : TypeId} {b : Nat} {t l s : Int} {r : Bool} {x : Int} (h : HandAt w T b t l s r x) (k : Keeps S w w') (hb : ¬ S b) : HandAt w' T b t l s r x := k.blk h hb
theorem handAt_new (w : World) (T : TypeId) (t l s : Int) (r : Bool) (x : Int) : HandAt (w.alloc (.cells #[.int .i64 t, .int .i64 l, .int .i64 s, .bool r, .int .i64 x] T)) T w.heap.size t l s r x := heap_alloc_new _ _
theorem not_own {a b : Nat} {v : Value} (h1 : b ≠ a) (h2 : v.ownBlock ≠ some b) : ¬ own2m a v b := by
  rintro (e | e)
  · exact h1 e
  · exact h2 e
end Go.Proofs.Ytfmamedkiaimpaa
