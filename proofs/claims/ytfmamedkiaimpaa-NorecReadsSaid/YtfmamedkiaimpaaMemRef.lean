/- The document's own memory (layer 2), each function with what it computes. -/
import Derived.Test.YtfmamedkiaimpaaMemLaws
import Derived.Deep.RegionHeld3
namespace Go.Proofs.Ytfmamedkiaimpaa
open Go.RowKit
abbrev RefAt := MemT 97
abbrev RefIn := MemInT 97
theorem rnew_nil (w : World) : Calls Try.prog 36 #[.slice none 0 0] w fun e w' => e = .returned (.pointer (some ⟨w.heap.size, 0, none⟩)) ∧ RefAt w' w.heap.size (.slice none 0 0) (MemS.new []) ∧ Keeps NoS w w' := by
  have H : RefAt (w.alloc (.cells #[.slice none 0 0, .int .i64 0, .int .i64 0, .int .i64 0, .int .i64 0, .int .i64 0, .bool false] 97)) w.heap.size (.slice none 0 0) (MemS.new []) :=
    ⟨heap_alloc_new _ _, World.ownsRow_nil _ _ _ _, by simp [Value.ownBlock], by simp [MemS.new]⟩
  have HH := Lib.hid H
  clear H
  go_enter Try.func36, Try.ntmps36
  go_wp2
  go_ret
  exact ⟨rfl, HH.out, (Keeps.refl _ _).alloc _⟩
set_option maxRecDepth 100000 in
theorem rnew_zero (a : Addr) (c : Nat) (w : World) : Calls Try.prog 36 #[.slice (some a) 0 c] w fun e w' => e = .returned (.pointer (some ⟨w.heap.size, 0, none⟩)) ∧ RefAt w' w.heap.size (.slice none 0 0) (MemS.new []) ∧ Keeps NoS w w' := by
  have H : RefAt (w.alloc (.cells #[.slice none 0 0, .int .i64 0, .int .i64 0, .int .i64 0, .int .i64 0, .int .i64 0, .bool false] 97)) w.heap.size (.slice none 0 0) (MemS.new []) :=
    ⟨heap_alloc_new _ _, World.ownsRow_nil _ _ _ _, by simp [Value.ownBlock], by simp [MemS.new]⟩
  have HH := Lib.hid H
  clear H
  go_enter Try.func36, Try.ntmps36
  go_wp2
  go_ret
  exact ⟨rfl, HH.out, (Keeps.refl _ _).alloc _⟩
set_option maxRecDepth 100000 in
theorem rnew_some (b off c : Nat) (zs : List Int) (w : World) (h0 : 0 < zs.length) (h1 : zs.length ≤ 4096) (hc : ∀ k, k < zs.length → w.cell? ⟨b, off + k, none⟩ = some (.int .i64 (zs.getD k 0))) :
    Calls Try.prog 36 #[.slice (some ⟨b, off, none⟩) zs.length c] w fun e w' => ∃ a v, e = .returned (.pointer (some ⟨a, 0, none⟩)) ∧ RefAt w' a v (MemS.new zs) ∧ w.heap.size ≤ a ∧ (∀ g, v.ownBlock = some g → w.heap.size ≤ g) ∧ Keeps NoS w w' := by
  obtain ⟨i0, hi, hz0, hz1, hz2⟩ := info_parts infoI64
  have hcells : ∀ j u, (intsV zs)[j]? = some u → w.cell? ((⟨b, off, none⟩ : Addr).add j) = some u := by
    intro j u hu
    have hj : j < zs.length := by rw [← intsV_len]; exact (List.getElem?_eq_some_iff.1 hu).1
    rw [intsV_get zs j hj] at hu
    rw [Go.WideShapes.add_plain, hc j hj]; exact hu
  have h1c : ∀ u ∈ intsV zs, u.oneCell' = true := by
    intro u hu; simp [intsV] at hu; obtain ⟨x, _, rfl⟩ := hu; rfl
  have hlen : (intsV zs).length = zs.length * 1 := by rw [intsV_len]; omega
  have HA := Lib.hid hcells; have HB := Lib.hid h1c; have HC := Lib.hid hlen
  have b3 : 0 + zs.length ≤ maxLen := by unfold maxLen; omega
  clear hcells h1c hlen hc
  go_enter Try.func36, Try.ntmps36
  go_wp2_with (at_builtin; refine wpList_append_fp _ rfl _ _ 24 rfl 2 i0 (.int .i64 0) 1 8 Try.underlying24 hi hz0 hz1 hz2 rfl (by decide) (.slice none 0 0) 0 [] rfl (World.ownsRow_nil _ _ _ _) ⟨b, off, none⟩ zs.length c (intsV zs) rfl HC.out HA.out HB.out b3 (by omega) ?_; intro v' w3 hown hgr hob; rw [Nat.zero_add, List.nil_append] at hown; obtain ⟨p', c', rfl⟩ := owns_slice hown)
  go_ret
  have hs := hgr.size
  refine ⟨w3.heap.size, .slice p' zs.length c', rfl, ⟨heap_alloc_new _ _, ?_, ?_, ?_⟩, hs, ?_, ?_⟩
  · exact hown.alloc _
  · intro e
    rcases hob _ e with h | h
    · simp [Value.ownBlock] at h
    · have := (hown.lt _ e).2; omega
  · show zs.length ≤ _; omega
  · intro g hg
    rcases hob _ hg with h | h
    · simp [Value.ownBlock] at h
    · omega
  · exact ((Keeps.refl NoS w).grown hgr (fun k hk _ => by simp [Value.ownBlock] at hk)).alloc _
theorem rnew_in (w0 : World) (v : Value) (zs : List Int) (w : World) (hin : InI w0 v zs) (hk : Keeps NoS w0 w) (h1 : zs.length ≤ 4096) :
    Calls Try.prog 36 #[v] w fun e w' => ∃ a u, e = .returned (.pointer (some ⟨a, 0, none⟩)) ∧ RefAt w' a u (MemS.new zs) ∧ w.heap.size ≤ a ∧ (∀ g, u.ownBlock = some g → w.heap.size ≤ g) ∧ Keeps NoS w w' := by
  obtain ⟨p, cap, rfl, _, hc, hn⟩ := hin
  by_cases h0 : zs = []
  · subst h0
    cases p with
    | none =>
      have := hn rfl
      subst this
      exact (rnew_nil w).mono fun e w' ⟨he, hm, hkp⟩ => ⟨_, _, he, hm, Nat.le_refl _, by simp [Value.ownBlock], hkp⟩
    | some a => exact (rnew_zero a cap w).mono fun e w' ⟨he, hm, hkp⟩ => ⟨_, _, he, hm, Nat.le_refl _, by simp [Value.ownBlock], hkp⟩
  · obtain ⟨b, off, rfl, hcell⟩ := hc h0
    exact rnew_some b off cap zs w (List.length_pos_iff.2 h0) h1 (fun k hk' => hk.cell (hcell k hk') (fun f => f))
end Go.Proofs.Ytfmamedkiaimpaa
