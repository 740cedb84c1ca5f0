/- The document's own memory (layer 2), each function with what it computes. -/
import Derived.Test.YtlcmnhfiggkmnaaGreatMemLaws
import Derived.Deep.RegionHeld3
namespace Go.Proofs.YtlcmnhfiggkmnaaGreat
open Go.RowKit
abbrev RefAt := MemT 92
abbrev RefIn := MemInT 92
theorem done_any (a : Nat) (v : Value) (st c2 c3 c4 c5 : Int) (c6 : Bool) (k at_ val saw : Int) (done : Bool) (w : World)
    (hd : w.heap[a]? = some (.cells #[v, .int .i64 st, .int .i64 c2, .int .i64 c3, .int .i64 c4, .int .i64 c5, .bool c6] 92 (0, 0))) :
    Calls Tryz.prog 124 #[.pointer (some ⟨a, 0, none⟩), .int .i64 k, .int .i64 at_, .int .i64 val, .int .i64 saw, .bool done] w fun e w' => e = .returned (.tuple #[]) ∧
      w'.heap[a]? = some (.cells #[v, .int .i64 (wrap64 (st + 1)), .int .i64 k, .int .i64 at_, .int .i64 val, .int .i64 saw, .bool done] 92 (0, 0)) ∧ Keeps (just a) w w' := by
  have c1 : w.cell? ⟨a, 1, none⟩ = some (.int .i64 st) := by rw [blk_cell hd]; rfl
  have d2 : w.cell? ⟨a, 2, none⟩ = some (.int .i64 c2) := by rw [blk_cell hd]; rfl
  have d3 : w.cell? ⟨a, 3, none⟩ = some (.int .i64 c3) := by rw [blk_cell hd]; rfl
  have d4 : w.cell? ⟨a, 4, none⟩ = some (.int .i64 c4) := by rw [blk_cell hd]; rfl
  have d5 : w.cell? ⟨a, 5, none⟩ = some (.int .i64 c5) := by rw [blk_cell hd]; rfl
  have d6 : w.cell? ⟨a, 6, none⟩ = some (.bool c6) := by rw [blk_cell hd]; rfl
  have f1 := blk_free hd 1
  have f2 := blk_free hd 2
  have f3 := blk_free hd 3
  have f4 := blk_free hd 4
  have f5 := blk_free hd 5
  have f6 := blk_free hd 6
  have HD := Lib.hid hd
  clear hd
  go_enter Tryz.func124, Tryz.ntmps124
  go_wp2
  go_end0
  refine ⟨rfl, ?_, ((((((Keeps.refl (just a) w).setCell (p := ⟨a, 1, none⟩) (fun _ => rfl) _).setCell (p := ⟨a, 2, none⟩) (fun _ => rfl) _).setCell (p := ⟨a, 3, none⟩) (fun _ => rfl) _).setCell (p := ⟨a, 4, none⟩) (fun _ => rfl) _).setCell (p := ⟨a, 5, none⟩) (fun _ => rfl) _).setCell (p := ⟨a, 6, none⟩) (fun _ => rfl) _⟩
  rw [blk_set (blk_set (blk_set (blk_set (blk_set (blk_set HD.out 1 _) 2 _) 3 _) 4 _) 5 _) 6 _]
  rfl
theorem done_mem (a : Nat) (v : Value) (M : MemS) (x : Acc) (w : World) (h : RefAt w a v M) :
    Calls Tryz.prog 124 #[.pointer (some ⟨a, 0, none⟩), .int .i64 x.k, .int .i64 x.at_, .int .i64 x.val, .int .i64 x.saw, .bool x.done] w fun e w' => e = .returned (.tuple #[]) ∧ RefAt w' a v (M.did x) ∧ Keeps (just a) w w' :=
  (done_any a v _ _ _ _ _ _ x.k x.at_ x.val x.saw x.done w h.hd).mono fun e w' ⟨he, hb, hk⟩ => ⟨he, ⟨hb, hk.owns h.ow (fun g hg e => h.ne (e ▸ hg)), h.ne, h.small⟩, hk⟩
theorem in_neg (a : Nat) (v : Value) (M : MemS) (i : Int) (w : World) (_h : RefAt w a v M) (hi : i < 0) : Calls Tryz.prog 123 #[.pointer (some ⟨a, 0, none⟩), .int .i64 i] w fun e w' => e = .returned (.bool false) ∧ w = w' := by
  go_enter Tryz.func123, Tryz.ntmps123
  go_wp2
  go_ret
  exact ⟨rfl, rfl⟩
theorem in_past (a : Nat) (v : Value) (M : MemS) (i : Nat) (w : World) (h : RefAt w a v M) (hi : M.L.length ≤ i) : Calls Tryz.prog 123 #[.pointer (some ⟨a, 0, none⟩), .int .i64 i] w fun e w' => e = .returned (.bool false) ∧ w = w' := by
  obtain ⟨c0, _⟩ := h.cells
  obtain ⟨p, c, rfl⟩ := h.slice
  clear h
  go_enter Tryz.func123, Tryz.ntmps123
  go_wp2
  go_ret
  exact ⟨by simp; omega, rfl⟩
theorem in_ok (a : Nat) (v : Value) (M : MemS) (i : Nat) (w : World) (h : RefAt w a v M) (hi : i < M.L.length) : Calls Tryz.prog 123 #[.pointer (some ⟨a, 0, none⟩), .int .i64 i] w fun e w' => e = .returned (.bool true) ∧ w = w' := by
  obtain ⟨c0, _⟩ := h.cells
  obtain ⟨p, c, rfl⟩ := h.slice
  clear h
  go_enter Tryz.func123, Tryz.ntmps123
  go_wp2
  go_ret
  exact ⟨rfl, rfl⟩
theorem in_out (a : Nat) (v : Value) (M : MemS) (i : Int) (w : World) (h : RefAt w a v M) (hi : M.out i) : Calls Tryz.prog 123 #[.pointer (some ⟨a, 0, none⟩), .int .i64 i] w fun e w' => e = .returned (.bool false) ∧ w = w' := by
  by_cases h0 : i < 0
  · exact in_neg a v M i w h h0
  · obtain ⟨n, rfl⟩ := Int.eq_ofNat_of_zero_le (show 0 ≤ i by omega)
    exact in_past a v M n w h (by rcases hi with h | h <;> omega)
theorem rload_out (a : Nat) (v : Value) (M : MemS) (i : Int) (w : World) (h : RefAt w a v M) (hi : M.out i) :
    Calls Tryz.prog 101 #[.pointer (some ⟨a, 0, none⟩), .int .i64 i] w fun e w' => e = .returned (.tuple #[.int .i64 0, .int .i64 2]) ∧ w = w' := by
  go_enter Tryz.func101, Tryz.ntmps101
  go_wp2_with (go_at_call 123; refine (in_out a v M i w h hi).mono ?_; rintro e w1 ⟨rfl, rfl⟩)
  go_ret2
  exact ⟨rfl, rfl⟩
theorem rstore_out (a : Nat) (v : Value) (M : MemS) (i x : Int) (w : World) (h : RefAt w a v M) (hi : M.out i) :
    Calls Tryz.prog 109 #[.pointer (some ⟨a, 0, none⟩), .int .i64 i, .int .i64 x] w fun e w' => e = .returned (.int .i64 2) ∧ w = w' := by
  go_enter Tryz.func109, Tryz.ntmps109
  go_wp2_with (go_at_call 123; refine (in_out a v M i w h hi).mono ?_; rintro e w1 ⟨rfl, rfl⟩)
  go_ret
  exact ⟨rfl, rfl⟩
theorem radd_out (a : Nat) (v : Value) (M : MemS) (i x : Int) (w : World) (h : RefAt w a v M) (hi : M.out i) :
    Calls Tryz.prog 129 #[.pointer (some ⟨a, 0, none⟩), .int .i64 i, .int .i64 x] w fun e w' => e = .returned (.tuple #[.int .i64 0, .int .i64 2]) ∧ w = w' := by
  go_enter Tryz.func129, Tryz.ntmps129
  go_wp2_with (go_at_call 123; refine (in_out a v M i w h hi).mono ?_; rintro e w1 ⟨rfl, rfl⟩)
  go_ret2
  exact ⟨rfl, rfl⟩
theorem rswap_out (a : Nat) (v : Value) (M : MemS) (i old x : Int) (w : World) (h : RefAt w a v M) (hi : M.out i) :
    Calls Tryz.prog 126 #[.pointer (some ⟨a, 0, none⟩), .int .i64 i, .int .i64 old, .int .i64 x] w fun e w' => e = .returned (.tuple #[.int .i64 0, .bool false, .int .i64 2]) ∧ w = w' := by
  go_enter Tryz.func126, Tryz.ntmps126
  go_wp2_with (go_at_call 123; refine (in_out a v M i w h hi).mono ?_; rintro e w1 ⟨rfl, rfl⟩)
  go_ret3
  exact ⟨rfl, rfl⟩
theorem rload_ok (a : Nat) (v : Value) (M : MemS) (i : Nat) (w : World) (h : RefAt w a v M) (hi : i < M.L.length) :
    Calls Tryz.prog 101 #[.pointer (some ⟨a, 0, none⟩), .int .i64 i] w fun e w' => e = .returned (.tuple #[.int .i64 (M.word i), .int .i64 0]) ∧ RefAt w' a v (M.load i) ∧ Keeps (just a) w w' := by
  obtain ⟨c0, _⟩ := h.cells
  obtain ⟨g, c, rfl, hga, hc, _, _⟩ := h.word i hi
  go_enter Tryz.func101, Tryz.ntmps101
  go_wp2_with (go_at_call 123; refine (in_ok a _ M i w h hi).mono ?_; rintro e w1 ⟨rfl, rfl⟩)
  go_region_held3 (fun w' => w'.cell? ⟨a, 0, none⟩ = some (.slice (some ⟨g, 0, none⟩) M.L.length c) ∧ w'.cell? ⟨g, i, none⟩ = some (.int .i64 (M.word i))) (first | exact ⟨c0, hc⟩ | exact ⟨d0, d1⟩)
    (first | (go_at_call 124; refine (done_mem a _ M ⟨1, i, M.word i, M.word i, true⟩ _ (h.keep ((Keeps.refl NoS _).drew) (fun f => f) (fun _ _ f => f))).mono ?_; rintro e w2 ⟨rfl, h2, hk2⟩; obtain ⟨d0, _⟩ := h2.cells; obtain ⟨g', c', hv', _, d1, d2, _⟩ := h2.word i hi; simp only [Value.slice.injEq, Option.some.injEq, Addr.mk.injEq, and_true, true_and] at hv'; obtain ⟨rfl, _⟩ := hv'))
  clear c0 hc
  go_wp2_with fail
  go_ret2
  exact ⟨rfl, h2, ((Keeps.refl _ _).drew).trans hk2⟩
theorem rstore_ok (a : Nat) (v : Value) (M : MemS) (i : Nat) (x : Int) (w : World) (h : RefAt w a v M) (hi : i < M.L.length) :
    Calls Tryz.prog 109 #[.pointer (some ⟨a, 0, none⟩), .int .i64 i, .int .i64 x] w fun e w' => e = .returned (.int .i64 0) ∧ RefAt w' a v (M.store i x) ∧ Keeps (own2m a v) w w' := by
  obtain ⟨c0, _⟩ := h.cells
  obtain ⟨g, c, rfl, hga, hc, _, _⟩ := h.word i hi
  go_enter Tryz.func109, Tryz.ntmps109
  go_wp2_with (go_at_call 123; refine (in_ok a _ M i w h hi).mono ?_; rintro e w1 ⟨rfl, rfl⟩)
  refine (done_mem a _ M ⟨2, i, x, M.word i, true⟩ w h).mono ?_
  rintro e w2 ⟨rfl, h2, hk2⟩
  have hput := h2.put (i := i) (x := x) rfl
  obtain ⟨d0, _⟩ := h2.cells
  obtain ⟨g', c', hv', _, d1, d2, _⟩ := h2.word i hi
  simp only [Value.slice.injEq, Option.some.injEq, Addr.mk.injEq, and_true, true_and] at hv'
  obtain ⟨rfl, _⟩ := hv'
  clear c0 hc
  go_wp2_with fail
  go_ret
  exact ⟨rfl, hput, (hk2.mono (fun k hk => .inl hk)).setCell (p := ⟨g, i, none⟩) (fun _ => .inr rfl) _⟩
theorem radd_ok (a : Nat) (v : Value) (M : MemS) (i : Nat) (x : Int) (w : World) (h : RefAt w a v M) (hi : i < M.L.length) :
    Calls Tryz.prog 129 #[.pointer (some ⟨a, 0, none⟩), .int .i64 i, .int .i64 x] w fun e w' => e = .returned (.tuple #[.int .i64 (M.word i), .int .i64 0]) ∧ RefAt w' a v (M.add i x) ∧ Keeps (own2m a v) w w' := by
  obtain ⟨c0, _⟩ := h.cells
  obtain ⟨g, c, rfl, hga, hc, _, _⟩ := h.word i hi
  go_enter Tryz.func129, Tryz.ntmps129
  go_wp2_with (go_at_call 123; refine (in_ok a _ M i w h hi).mono ?_; rintro e w1 ⟨rfl, rfl⟩)
  refine (done_mem a _ M ⟨4, i, x, M.word i, true⟩ w h).mono ?_
  rintro e w2 ⟨rfl, h2, hk2⟩
  obtain ⟨z, hz⟩ : ∃ z, wrap64 (M.word i + x) = z := ⟨_, rfl⟩
  have hput := h2.put (i := i) (x := z) rfl
  obtain ⟨d0, _⟩ := h2.cells
  obtain ⟨g', c', hv', _, d1, d2, _⟩ := h2.word i hi
  simp only [Value.slice.injEq, Option.some.injEq, Addr.mk.injEq, and_true, true_and] at hv'
  obtain ⟨rfl, _⟩ := hv'
  clear c0 hc
  go_wp2_with fail
  go_ret2
  have e : M.add i x = { M.did ⟨4, i, x, M.word i, true⟩ with L := (M.did ⟨4, i, x, M.word i, true⟩).L.set i z } := by rw [← hz]; rfl
  exact ⟨rfl, by rw [e]; exact hput, (hk2.mono (fun k hk => .inl hk)).setCell (p := ⟨g, i, none⟩) (fun _ => .inr rfl) _⟩
theorem rswap_no (a : Nat) (v : Value) (M : MemS) (i : Nat) (old x : Int) (w : World) (h : RefAt w a v M) (hi : i < M.L.length) (ho : (M.word i == old) = false) :
    Calls Tryz.prog 126 #[.pointer (some ⟨a, 0, none⟩), .int .i64 i, .int .i64 old, .int .i64 x] w fun e w' => e = .returned (.tuple #[.int .i64 (M.word i), .bool false, .int .i64 0]) ∧ RefAt w' a v (M.swap i old x) ∧ Keeps (own2m a v) w w' := by
  obtain ⟨c0, _⟩ := h.cells
  obtain ⟨g, c, rfl, hga, hc, _, _⟩ := h.word i hi
  have e : M.swap i old x = M.did ⟨3, i, x, M.word i, false⟩ := by unfold MemS.swap; rw [ho]; rfl
  have HE := Lib.hid e
  clear e
  go_enter Tryz.func126, Tryz.ntmps126
  go_wp2_with (go_at_call 123; refine (in_ok a _ M i w h hi).mono ?_; rintro e w1 ⟨rfl, rfl⟩)
  refine (done_mem a _ M ⟨3, i, x, M.word i, false⟩ w h).mono ?_
  rintro e w2 ⟨rfl, h2, hk2⟩
  go_wp2_with fail
  go_ret3
  exact ⟨rfl, by rw [HE.out]; exact h2, hk2.mono (fun k hk => .inl hk)⟩
theorem rswap_yes (a : Nat) (v : Value) (M : MemS) (i : Nat) (old x : Int) (w : World) (h : RefAt w a v M) (hi : i < M.L.length) (ho : (M.word i == old) = true) :
    Calls Tryz.prog 126 #[.pointer (some ⟨a, 0, none⟩), .int .i64 i, .int .i64 old, .int .i64 x] w fun e w' => e = .returned (.tuple #[.int .i64 (M.word i), .bool true, .int .i64 0]) ∧ RefAt w' a v (M.swap i old x) ∧ Keeps (own2m a v) w w' := by
  obtain ⟨c0, _⟩ := h.cells
  obtain ⟨g, c, rfl, hga, hc, _, _⟩ := h.word i hi
  have e : M.swap i old x = { M.did ⟨3, i, x, M.word i, true⟩ with L := M.L.set i x } := by unfold MemS.swap; rw [ho]; rfl
  have HE := Lib.hid e
  clear e
  go_enter Tryz.func126, Tryz.ntmps126
  go_wp2_with (go_at_call 123; refine (in_ok a _ M i w h hi).mono ?_; rintro e w1 ⟨rfl, rfl⟩)
  refine (done_mem a _ M ⟨3, i, x, M.word i, true⟩ w h).mono ?_
  rintro e w2 ⟨rfl, h2, hk2⟩
  have hput := h2.put (i := i) (x := x) rfl
  have HP := Lib.hid hput
  obtain ⟨d0, _⟩ := h2.cells
  obtain ⟨g', c', hv', _, d1, d2, _⟩ := h2.word i hi
  simp only [Value.slice.injEq, Option.some.injEq, Addr.mk.injEq, and_true, true_and] at hv'
  obtain ⟨rfl, _⟩ := hv'
  clear c0 hc hput
  go_wp2_with fail
  go_ret3
  exact ⟨rfl, by rw [HE.out]; exact HP.out, (hk2.mono (fun k hk => .inl hk)).setCell (p := ⟨g, i, none⟩) (fun _ => .inr rfl) _⟩
theorem rnew_nil (w : World) : Calls Tryz.prog 30 #[.slice none 0 0] w fun e w' => e = .returned (.pointer (some ⟨w.heap.size, 0, none⟩)) ∧ RefAt w' w.heap.size (.slice none 0 0) (MemS.new []) ∧ Keeps NoS w w' := by
  have H : RefAt (w.alloc (.cells #[.slice none 0 0, .int .i64 0, .int .i64 0, .int .i64 0, .int .i64 0, .int .i64 0, .bool false] 92)) w.heap.size (.slice none 0 0) (MemS.new []) :=
    ⟨heap_alloc_new _ _, World.ownsRow_nil _ _ _ _, by simp [Value.ownBlock], by simp [MemS.new]⟩
  have HH := Lib.hid H
  clear H
  go_enter Tryz.func30, Tryz.ntmps30
  go_wp2
  go_ret
  exact ⟨rfl, HH.out, (Keeps.refl _ _).alloc _⟩
set_option maxRecDepth 100000 in
theorem rnew_zero (a : Addr) (c : Nat) (w : World) : Calls Tryz.prog 30 #[.slice (some a) 0 c] w fun e w' => e = .returned (.pointer (some ⟨w.heap.size, 0, none⟩)) ∧ RefAt w' w.heap.size (.slice none 0 0) (MemS.new []) ∧ Keeps NoS w w' := by
  have H : RefAt (w.alloc (.cells #[.slice none 0 0, .int .i64 0, .int .i64 0, .int .i64 0, .int .i64 0, .int .i64 0, .bool false] 92)) w.heap.size (.slice none 0 0) (MemS.new []) :=
    ⟨heap_alloc_new _ _, World.ownsRow_nil _ _ _ _, by simp [Value.ownBlock], by simp [MemS.new]⟩
  have HH := Lib.hid H
  clear H
  go_enter Tryz.func30, Tryz.ntmps30
  go_wp2
  go_ret
  exact ⟨rfl, HH.out, (Keeps.refl _ _).alloc _⟩
set_option maxRecDepth 100000 in
theorem rnew_some (b off c : Nat) (zs : List Int) (w : World) (h0 : 0 < zs.length) (h1 : zs.length ≤ 4096) (hc : ∀ k, k < zs.length → w.cell? ⟨b, off + k, none⟩ = some (.int .i64 (zs.getD k 0))) :
    Calls Tryz.prog 30 #[.slice (some ⟨b, off, none⟩) zs.length c] w fun e w' => ∃ a v, e = .returned (.pointer (some ⟨a, 0, none⟩)) ∧ RefAt w' a v (MemS.new zs) ∧ w.heap.size ≤ a ∧ (∀ g, v.ownBlock = some g → w.heap.size ≤ g) ∧ Keeps NoS w w' := by
  obtain ⟨i0, hi, hz0, hz1, hz2⟩ := info_parts infoI64
  have hcells : ∀ j u, (intsV zs)[j]? = some u → w.cell? ((⟨b, off, none⟩ : Addr).add j) = some u := by
    intro j u hu
    have hj : j < zs.length := by rw [← intsV_len]; exact (List.getElem?_eq_some_iff.1 hu).1
    rw [intsV_get zs j hj] at hu
    rw [Go.WideShapes.add_plain, hc j hj]; exact hu
  have h1c : ∀ u ∈ intsV zs, u.oneCell' = true := by
    intro u hu; simp [intsV] at hu; obtain ⟨x, _, rfl⟩ := hu; rfl
  have hlen : (intsV zs).length = zs.length * 1 := by rw [intsV_len]; omega
  have HA := Lib.hid hcells; have HB := Lib.hid h1c; have HC := Lib.hid hlen
  have b3 : 0 + zs.length ≤ maxLen := by unfold maxLen; omega
  clear hcells h1c hlen hc
  go_enter Tryz.func30, Tryz.ntmps30
  go_wp2_with (at_builtin; refine wpList_append_fp _ rfl _ _ 55 rfl 2 i0 (.int .i64 0) 1 8 Tryz.underlying55 hi hz0 hz1 hz2 rfl (by decide) (.slice none 0 0) 0 [] rfl (World.ownsRow_nil _ _ _ _) ⟨b, off, none⟩ zs.length c (intsV zs) rfl HC.out HA.out HB.out b3 (by omega) ?_; intro v' w3 hown hgr hob; rw [Nat.zero_add, List.nil_append] at hown; obtain ⟨p', c', rfl⟩ := owns_slice hown)
  go_ret
  have hs := hgr.size
  refine ⟨w3.heap.size, .slice p' zs.length c', rfl, ⟨heap_alloc_new _ _, ?_, ?_, ?_⟩, hs, ?_, ?_⟩
  · exact hown.alloc _
  · intro e
    rcases hob _ e with h | h
    · simp [Value.ownBlock] at h
    · have := (hown.lt _ e).2; omega
  · show zs.length ≤ _; omega
  · intro g hg
    rcases hob _ hg with h | h
    · simp [Value.ownBlock] at h
    · omega
  · exact ((Keeps.refl NoS w).grown hgr (fun k hk _ => by simp [Value.ownBlock] at hk)).alloc _
theorem rnew_in (w0 : World) (v : Value) (zs : List Int) (w : World) (hin : InI w0 v zs) (hk : Keeps NoS w0 w) (h1 : zs.length ≤ 4096) :
    Calls Tryz.prog 30 #[v] w fun e w' => ∃ a u, e = .returned (.pointer (some ⟨a, 0, none⟩)) ∧ RefAt w' a u (MemS.new zs) ∧ w.heap.size ≤ a ∧ (∀ g, u.ownBlock = some g → w.heap.size ≤ g) ∧ Keeps NoS w w' := by
  obtain ⟨p, cap, rfl, _, hc, hn⟩ := hin
  by_cases h0 : zs = []
  · subst h0
    cases p with
    | none =>
      have := hn rfl
      subst this
      exact (rnew_nil w).mono fun e w' ⟨he, hm, hkp⟩ => ⟨_, _, he, hm, Nat.le_refl _, by simp [Value.ownBlock], hkp⟩
    | some a => exact (rnew_zero a cap w).mono fun e w' ⟨he, hm, hkp⟩ => ⟨_, _, he, hm, Nat.le_refl _, by simp [Value.ownBlock], hkp⟩
  · obtain ⟨b, off, rfl, hcell⟩ := hc h0
    exact rnew_some b off cap zs w (List.length_pos_iff.2 h0) h1 (fun k hk' => hk.cell (hcell k hk') (fun f => f))
end Go.Proofs.YtlcmnhfiggkmnaaGreat
