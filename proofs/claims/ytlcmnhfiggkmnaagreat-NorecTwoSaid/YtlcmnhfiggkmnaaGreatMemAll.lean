/- All, Last of a memory; the document's and the program's side by side. -/
import Derived.Test.YtlcmnhfiggkmnaaGreatMemRef
import Derived.Test.YtlcmnhfiggkmnaaGreatAppend
namespace Go.Proofs.YtlcmnhfiggkmnaaGreat
open Go.RowKit

theorem infoI64' : (Tryz.prog.info? 2).map (fun i => (i.zero, i.size, i.bytes)) = some (some (.int .i64 0), 1, 8) := by kernel_rfl
theorem oneCells_ints (L : List Int) : ∀ u ∈ intsV L, u.oneCell' = true := by
  intro u hu; simp [intsV] at hu; obtain ⟨x, _, rfl⟩ := hu; rfl
set_option maxRecDepth 100000 in
theorem all_any (a : Nat) (v : Value) (M : MemS) (w : World) (h : MemAt w a v M) :
    Calls Tryz.prog 72 #[.pointer (some ⟨a, 0, none⟩)] w fun e w' => ∃ u, e = .returned u ∧ w'.ownsRow 0 2 1 u M.L.length (intsV M.L) ∧ (∀ g, u.ownBlock = some g → w.heap.size ≤ g) ∧ Keeps NoS w w' := by
  obtain ⟨i0, hi, hz0, hz1, hz2⟩ := info_parts infoI64'
  obtain ⟨c0, _⟩ := h.cells
  have hsm := h.small
  have how := h.ow
  clear h
  rcases how.2 with ⟨rfl, hz⟩ | ⟨g, cap, cur, rfl, _⟩
  · have hl : M.L = [] := List.eq_nil_of_length_eq_zero hz
    rw [hl]
    clear how
    go_enter Tryz.func72, Tryz.ntmps72
    go_wp2
    go_ret
    exact ⟨_, rfl, World.ownsRow_nil _ _ _ _, by simp [Value.ownBlock], Keeps.refl _ _⟩
  · have hnews : ∀ j u, (intsV M.L)[j]? = some u → w.cell? ((⟨g, 0, none⟩ : Addr).add j) = some u := how.cells rfl
    have h1 := oneCells_ints M.L
    have hlen : (intsV M.L).length = M.L.length * 1 := by rw [intsV_len]; omega
    have HN := Lib.hid hnews; have H1 := Lib.hid h1; have HL := Lib.hid hlen
    have b3 : 0 + M.L.length ≤ maxLen := by unfold maxLen; omega
    clear hnews h1 hlen how
    go_enter Tryz.func72, Tryz.ntmps72
    go_wp2_with (at_builtin; refine wpList_append_fp _ rfl _ _ 55 rfl 2 i0 (.int .i64 0) 1 8 Tryz.underlying55 hi hz0 hz1 hz2 rfl (by decide) (.slice none 0 0) 0 [] rfl (World.ownsRow_nil _ _ _ _) ⟨g, 0, none⟩ M.L.length cap (intsV M.L) rfl HL.out HN.out H1.out b3 (by omega) ?_; intro v' w3 hown hgr hob; rw [Nat.zero_add, List.nil_append] at hown)
    go_ret
    refine ⟨_, rfl, hown, fun g' hg' => ?_, (Keeps.refl NoS w).grown hgr (fun k hk _ => by simp [Value.ownBlock] at hk)⟩
    rcases hob g' hg' with h | h
    · simp [Value.ownBlock] at h
    · omega
theorem last_any (a : Nat) (v : Value) (M : MemS) (w : World) (h : MemAt w a v M) :
    Calls Tryz.prog 66 #[.pointer (some ⟨a, 0, none⟩)] w fun e w' => e = .returned (.agg #[.int .i64 M.last.k, .int .i64 M.last.at_, .int .i64 M.last.val, .int .i64 M.last.saw, .bool M.last.done]) ∧ Keeps NoS w w' := by
  have d2 : w.cell? ⟨a, 2, none⟩ = some (.int .i64 M.last.k) := by rw [blk_cell h.hd]; rfl
  have d3 : w.cell? ⟨a, 3, none⟩ = some (.int .i64 M.last.at_) := by rw [blk_cell h.hd]; rfl
  have d4 : w.cell? ⟨a, 4, none⟩ = some (.int .i64 M.last.val) := by rw [blk_cell h.hd]; rfl
  have d5 : w.cell? ⟨a, 5, none⟩ = some (.int .i64 M.last.saw) := by rw [blk_cell h.hd]; rfl
  have d6 : w.cell? ⟨a, 6, none⟩ = some (.bool M.last.done) := by rw [blk_cell h.hd]; rfl
  have hlt := blk_lt h.hd
  clear h
  go_enter Tryz.func66, Tryz.ntmps66
  go_wp2
  refine bodyPost_ret (v := .agg #[.int .i64 M.last.k, .int .i64 M.last.at_, .int .i64 M.last.val, .int .i64 M.last.saw, .bool M.last.done]) (by simp [results, Tryz.results66, go_sem]) rfl ⟨rfl, ?_⟩
  exact (Keeps.refl _ _).alloc _
end Go.Proofs.YtlcmnhfiggkmnaaGreat
