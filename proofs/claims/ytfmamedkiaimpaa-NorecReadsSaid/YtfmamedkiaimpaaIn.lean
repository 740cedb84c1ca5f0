/- What comes in: slices of numbers and of structs of numbers, opened. No program in sight. -/
import Derived.Test.YtfmamedkiaimpaaBase
import Derived.ProofKit
import Derived.OpenShut
import Derived.Deep.Slices
import Derived.Deep.Fields
namespace Go.Proofs.Ytfmamedkiaimpaa
open Go.ChangeShapes Go.WideShapes Go.ChangeAt Go.RowKit Go.Deep
section
variable {H : Type} {enc : TypeId × Value → H} {P : Program} {w : World} {base : Nat} {spare : Nat → Bool} {held : Bool}

/-- a slice of structs, each of n numbers -/
theorem open_structs {t e : TypeId} {fs : Array Field} {n fuel : Nat} {cs : List Value} {x : DataW H × List MemPlace} (ht : P.underlying t = some (.slice e)) (he : P.underlying e = some (.struct fs)) (hn : P.cellsOf e = n) (hsz : fs.size = n)
    (hf : ∀ j, j < n → ∃ f, fs[j]? = some f ∧ f.offset = j ∧ P.underlying f.type = some (.int .i64) ∧ P.cellsOf f.type = 1) (h : DataW.trod enc P w base spare held fuel t cs = some x) :
    cs = [.slice none 0 0] ∨ ∃ (a : Addr) (len cap : Nat) (F : Nat → Nat → Int), cs = [.slice (some a) len cap] ∧ len ≤ cap ∧ cap ≤ maxLen ∧
      ∀ i, i < len → ∀ j, j < n → w.cell? (a.add (i * n + j)) = some (.int .i64 (F i j)) ∧ (Lit.int .i64 (F i j)).wf = true := by
  rcases open_slice ht h with h0 | ⟨a, len, cap, m, k, D, Pl, hcs, hb, hl, hm, hmm, hx, hi⟩
  · exact .inl h0.1
  · right
    have key : ∀ i j : Nat, ∃ z : Int, i < len → j < n → w.cell? (a.add (i * n + j)) = some (.int .i64 z) ∧ (Lit.int .i64 z).wf = true := by
      intro i j
      by_cases hil : i < len
      · by_cases hjn : j < n
        · obtain ⟨cs', hc, ht'⟩ := hi i (by rw [hmm]; split <;> omega)
          rw [hn] at hc
          obtain ⟨_, hlen, hcell⟩ := World.cells?_some hc
          obtain ⟨ys, n', _, _, hcl, hyl, hfs⟩ := DataW.trod_struct he ht'
          obtain ⟨f, hfj, hfo, hfu, hfc⟩ := hf j hjn
          have h1 := hfs j f hfj
          rw [hfo, hfc] at h1
          have hys : ys[j]? = some (ys[j]'(by omega)) := List.getElem?_eq_getElem (by omega)
          rw [hys] at h1
          obtain ⟨z, hz, _, hwf⟩ := DataW.trod_int hfu h1
          refine ⟨z, fun _ _ => ⟨?_, hwf⟩⟩
          have hce := hcell j hjn
          have hcs'j : cs'[j]? = some (.int .i64 z) := by
            rw [List.drop_eq_getElem_cons (by omega)] at hz
            simp only [List.take_succ_cons, List.take_zero, List.cons.injEq, and_true] at hz
            rw [List.getElem?_eq_getElem (by omega), hz]
          rw [← Go.Deep.add_add, hce, hcs'j]
        · exact ⟨0, fun _ h => absurd h hjn⟩
      · exact ⟨0, fun h => absurd h hil⟩
    have key2 : ∀ i : Nat, ∃ G : Nat → Int, ∀ j, i < len → j < n → w.cell? (a.add (i * n + j)) = some (.int .i64 (G j)) ∧ (Lit.int .i64 (G j)).wf = true := fun i => Classical.axiomOfChoice (key i)
    obtain ⟨F, hF⟩ := Classical.axiomOfChoice key2
    exact ⟨a, len, cap, F, hcs, hl, hm, fun i hil j hjn => hF i j hil hjn⟩

/-- an address at which a cell lies is plain -/
theorem plain_of {a : Addr} {v : Value} (h : w.cell? a = some v) : a = ⟨a.block, a.off, none⟩ := by
  obtain ⟨b, off, spot⟩ := a
  have hs : spot = none := by simpa using World.cell?_spot h
  subst hs; rfl

theorem inW_of {t e : TypeId} {fs : Array Field} {fuel : Nat} {v : Value} {x : DataW H × List MemPlace} (ht : P.underlying t = some (.slice e)) (he : P.underlying e = some (.struct fs)) (hn : P.cellsOf e = 2) (hsz : fs.size = 2)
    (hf : ∀ j, j < 2 → ∃ f, fs[j]? = some f ∧ f.offset = j ∧ P.underlying f.type = some (.int .i64) ∧ P.cellsOf f.type = 1) (h : DataW.trod enc P w base spare held fuel t [v] = some x) :
    ∃ ls, InW w v ls ∧ (∀ k, k < ls.length → (Lit.int .i64 (ls.getD k (0, 0)).1).wf = true ∧ (Lit.int .i64 (ls.getD k (0, 0)).2).wf = true) := by
  rcases open_structs ht he hn hsz hf h with hc | ⟨a, len, cap, F, hc, hl, hm, hF⟩
  · simp only [List.cons.injEq, and_true] at hc
    subst hc
    exact ⟨[], ⟨none, 0, rfl, by decide, fun h => absurd rfl h⟩, by simp⟩
  · simp only [List.cons.injEq, and_true] at hc
    subst hc
    have hlen : ((List.range len).map fun i => (F i 0, F i 1)).length = len := by simp
    have hget : ∀ k, k < len → ((List.range len).map fun i => (F i 0, F i 1)).getD k (0, 0) = (F k 0, F k 1) := fun k hk => by
      rw [getD_at _ _ _ (by rw [hlen]; exact hk)]; simp
    refine ⟨(List.range len).map fun i => (F i 0, F i 1), ⟨some a, cap, by rw [hlen], by rw [hlen]; unfold maxLen at hm; omega, fun hne => ?_⟩, fun k hk => ?_⟩
    · have h0 : 0 < len := by
        rcases Nat.eq_zero_or_pos len with h | h
        · subst h; simp at hne
        · exact h
      have hp := plain_of ((hF 0 h0 0 (by decide)).1)
      have hz : a.add (0 * 2 + 0) = a := by simp [Addr.add]
      rw [hz] at hp
      refine ⟨a.block, a.off, by rw [← hp], fun k hk => ?_⟩
      rw [hlen] at hk
      rw [hget k hk]
      have g0 := (hF k hk 0 (by decide)).1
      have g1 := (hF k hk 1 (by decide)).1
      rw [hp, Go.WideShapes.add_plain] at g0 g1
      exact ⟨g0, g1⟩
    · rw [hlen] at hk
      rw [hget k hk]
      exact ⟨(hF k hk 0 (by decide)).2, (hF k hk 1 (by decide)).2⟩

/-- A slice of numbers that came in. -/
def InI (w : World) (v : Value) (zs : List Int) : Prop :=
  ∃ p cap, v = .slice p zs.length cap ∧ zs.length ≤ 9223372036854775807 ∧ (zs ≠ [] → ∃ b off, p = some ⟨b, off, none⟩ ∧ ∀ k, k < zs.length → w.cell? ⟨b, off + k, none⟩ = some (.int .i64 (zs.getD k 0))) ∧ (p = none → cap = 0)
theorem InI.at {w : World} {v : Value} {zs : List Int} (h : InI w v zs) (hne : 0 < zs.length) : ∃ b off cap, v = .slice (some ⟨b, off, none⟩) zs.length cap ∧
    ∀ k, k < zs.length → w.cell? ⟨b, off + k, none⟩ = some (.int .i64 (zs.getD k 0)) := by
  obtain ⟨p, cap, rfl, _, hc, _⟩ := h
  obtain ⟨b, off, rfl, hd⟩ := hc (fun e => by rw [e] at hne; exact absurd hne (by decide))
  exact ⟨b, off, cap, rfl, hd⟩
theorem inI_of {t e : TypeId} {fuel : Nat} {v : Value} {x : DataW H × List MemPlace} (ht : P.underlying t = some (.slice e)) (he : P.underlying e = some (.int .i64)) (hc : P.cellsOf e = 1) (h : DataW.trod enc P w base spare held fuel t [v] = some x) :
    ∃ zs, InI w v zs ∧ ∀ k, k < zs.length → (Lit.int .i64 (zs.getD k 0)).wf = true := by
  rcases open_ints ht he hc h with ⟨hcs, _⟩ | ⟨a, len, cap, zs, hcs, hb, hl, hm, hz, hx, hcell, hwf⟩
  · simp only [List.cons.injEq, and_true] at hcs
    subst hcs
    exact ⟨[], ⟨none, 0, rfl, by decide, fun h => absurd rfl h, fun _ => rfl⟩, by simp⟩
  · simp only [List.cons.injEq, and_true] at hcs
    subst hcs
    have hle : len ≤ zs.length := by rw [hz]; split <;> omega
    have hlen : (zs.take len).length = len := by simp; omega
    have hget : ∀ k, k < len → (zs.take len).getD k 0 = zs.getD k 0 := fun k hk => by
      simp [List.getD_eq_getElem?_getD, List.getElem?_take, hk]
    refine ⟨zs.take len, ⟨some a, cap, by rw [hlen], by rw [hlen]; unfold maxLen at hm; omega, fun hne => ?_, fun h => by cases h⟩, fun k hk => ?_⟩
    · have h0 : 0 < zs.length := by
        rcases Nat.eq_zero_or_pos zs.length with h | h
        · rw [List.eq_nil_of_length_eq_zero h] at hne; simp at hne
        · exact h
      obtain ⟨b, off, rfl, hc⟩ := ints_at hcell h0
      exact ⟨b, off, rfl, fun k hk => by rw [hlen] at hk; rw [hget k hk]; exact hc k (by omega)⟩
    · rw [hlen] at hk
      rw [hget k hk]
      apply hwf
      rw [getD_at _ _ _ (by omega)]
      exact List.getElem_mem _
end
end Go.Proofs.Ytfmamedkiaimpaa
