/- List, Clear of a set of writes. -/
import Derived.Test.YtfmamedkiaimpaaWritesLaws
import Derived.Test.YtfmamedkiaimpaaIn
namespace Go.Proofs.Ytfmamedkiaimpaa
open Go.RowKit
theorem oneCells_flat (l : List (Int × Int)) : ∀ u ∈ flat l, u.oneCell' = true := by
  intro u hu
  simp only [flat, List.mem_flatMap, List.mem_cons, List.not_mem_nil, or_false] at hu
  obtain ⟨x, _, rfl | rfl⟩ := hu <;> rfl
theorem wlist_nil (w : World) : Calls Try.prog 46 #[.pointer none] w fun e w' => e = .returned (.slice none 0 0) ∧ w = w' := by
  go_enter Try.func46, Try.ntmps46
  go_wp2
  go_ret
  exact ⟨rfl, rfl⟩
set_option maxRecDepth 100000 in
theorem wlist_any (a : Nat) (v : Value) (room asked : Int) (l : List (Int × Int)) (w : World) (hs : WrAt w a v room l asked) :
    Calls Try.prog 46 #[.pointer (some ⟨a, 0, none⟩)] w fun e w' => ∃ u, e = .returned u ∧ w'.ownsRow 0 54 2 u l.length (flat l) ∧ (∀ g, u.ownBlock = some g → w.heap.size ≤ g) ∧ Keeps NoS w w' := by
  obtain ⟨i0, hi, hz0, hz1, hz2⟩ := info_parts infoWord
  obtain ⟨_, c1, _, _⟩ := hs.cells
  have hsm := hs.small
  have how := hs.ow
  clear hs
  rcases how.2 with ⟨rfl, hz⟩ | ⟨g, cap, cur, rfl, _⟩
  · have hl : l = [] := List.eq_nil_of_length_eq_zero hz
    rw [hl]
    clear how
    go_enter Try.func46, Try.ntmps46
    go_wp2
    go_ret
    exact ⟨_, rfl, World.ownsRow_nil _ _ _ _, by simp [Value.ownBlock], Keeps.refl _ _⟩
  · have hnews : ∀ j u, (flat l)[j]? = some u → w.cell? ((⟨g, 0, none⟩ : Addr).add j) = some u := how.cells rfl
    have h1 := oneCells_flat l
    have hlen : (flat l).length = l.length * 2 := flat_len l
    have HN := Lib.hid hnews; have H1 := Lib.hid h1; have HL := Lib.hid hlen
    have b3 : 0 + l.length ≤ maxLen := by unfold maxLen; omega
    clear hnews h1 hlen how
    go_enter Try.func46, Try.ntmps46
    go_wp2_with (at_builtin; refine wpList_append_fp _ rfl _ _ 43 rfl 54 i0 (.agg #[.int .i64 0, .int .i64 0]) 2 16 Try.underlying43 hi hz0 hz1 hz2 rfl (by decide) (.slice none 0 0) 0 [] rfl (World.ownsRow_nil _ _ _ _) ⟨g, 0, none⟩ l.length cap (flat l) rfl HL.out HN.out H1.out b3 (by omega) ?_; intro v' w3 hown hgr hob; rw [Nat.zero_add, List.nil_append] at hown)
    go_ret
    refine ⟨_, rfl, hown, fun g' hg' => ?_, (Keeps.refl NoS w).grown hgr (fun k hk _ => by simp [Value.ownBlock] at hk)⟩
    rcases hob g' hg' with h | h
    · simp [Value.ownBlock] at h
    · omega
theorem wlist_in {w wr : World} {a : Nat} {room asked : Int} {l : List (Int × Int)} (h : WrIn w wr a room asked l) :
    Calls Try.prog 46 #[.pointer (some ⟨a, 0, none⟩)] wr fun e w' => ∃ u, e = .returned u ∧ w'.ownsRow 0 54 2 u l.length (flat l) ∧ Keeps NoS wr w' ∧ WrIn w w' a room asked l := by
  have h' := h
  obtain ⟨v, h1, h2, h3, h4⟩ := h'
  exact (wlist_any a v room asked l wr h1).mono fun e w' ⟨u, he, ho, hn, hk⟩ => ⟨u, he, ho, hk, h.keep hk⟩
end Go.Proofs.Ytfmamedkiaimpaa
