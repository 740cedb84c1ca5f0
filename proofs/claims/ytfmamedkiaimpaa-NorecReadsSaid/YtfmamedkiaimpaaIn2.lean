/- What comes in: slices of structs of n numbers, arrays and structs of numbers by value. No program in sight. -/
import Derived.Test.YtfmamedkiaimpaaIn
namespace Go.Proofs.Ytfmamedkiaimpaa
open Go.ChangeShapes Go.WideShapes Go.ChangeAt Go.RowKit Go.Deep
/-- rows of numbers -/
structure NRows where
  len : Nat
  F : Nat → Nat → Int
/-- A slice of structs, each of m numbers, that came in. -/
def InN (m : Nat) (w : World) (v : Value) (L : NRows) : Prop :=
  ∃ p cap, v = .slice p L.len cap ∧ L.len ≤ 9223372036854775807 ∧ (0 < L.len → ∃ b off, p = some ⟨b, off, none⟩ ∧
    ∀ k, k < L.len → ∀ j, j < m → w.cell? ⟨b, off + k * m + j, none⟩ = some (.int .i64 (L.F k j)) ∧ (Lit.int .i64 (L.F k j)).wf = true)
theorem Keeps.inN {m : Nat} {w w' : World} {v : Value} {L : NRows} (k : Keeps NoS w w') (h : InN m w v L) : InN m w' v L := by
  obtain ⟨p, cap, hv, hm, hc⟩ := h
  refine ⟨p, cap, hv, hm, fun hne => ?_⟩
  obtain ⟨b, off, hb, hcell⟩ := hc hne
  exact ⟨b, off, hb, fun i hi j hj => ⟨k.cell (hcell i hi j hj).1 (fun f => f), (hcell i hi j hj).2⟩⟩
section
variable {H : Type} {enc : TypeId × Value → H} {P : Program} {w : World} {base : Nat} {spare : Nat → Bool} {held : Bool}
theorem inN_of {m : Nat} (hm0 : 0 < m) {t e : TypeId} {fs : Array Field} {fuel : Nat} {v : Value} {x : DataW H × List MemPlace} (ht : P.underlying t = some (.slice e)) (he : P.underlying e = some (.struct fs)) (hn : P.cellsOf e = m) (hsz : fs.size = m)
    (hf : ∀ j, j < m → ∃ f, fs[j]? = some f ∧ f.offset = j ∧ P.underlying f.type = some (.int .i64) ∧ P.cellsOf f.type = 1) (h : DataW.trod enc P w base spare held fuel t [v] = some x) :
    ∃ L, InN m w v L := by
  rcases open_structs ht he hn hsz hf h with hc | ⟨a, len, cap, F, hc, hl, hm, hF⟩
  · simp only [List.cons.injEq, and_true] at hc
    subst hc
    exact ⟨⟨0, fun _ _ => 0⟩, none, 0, rfl, by decide, fun h => absurd h (by decide)⟩
  · simp only [List.cons.injEq, and_true] at hc
    subst hc
    refine ⟨⟨len, F⟩, some a, cap, rfl, by unfold maxLen at hm; show len ≤ _; omega, fun hne => ?_⟩
    have hp := plain_of ((hF 0 hne 0 hm0).1)
    have hz : a.add (0 * m + 0) = a := by simp [Addr.add]
    rw [hz] at hp
    refine ⟨a.block, a.off, by rw [← hp], fun k hk j hj => ?_⟩
    have g := hF k hk j hj
    rw [hp, Go.WideShapes.add_plain, ← Nat.add_assoc] at g
    exact g
end
/-- numbers as cells -/
def nums (L : List Int) : Array Value := (L.map (Value.int .i64)).toArray
theorem nums_get (L : List Int) (k : Nat) (h : k < L.length) : (nums L)[k]? = some (.int .i64 (L.getD k 0)) := by
  rw [getD_at _ _ _ h]; simp [nums, h]
section
variable {H : Type} {enc : TypeId × Value → H} {P : Program} {w : World} {base : Nat} {spare : Nat → Bool} {held : Bool}
theorem okWide_agg_arr {r : Reach} {b0 n : Nat} {t e : TypeId} {v : Value} (ht : P.underlying t = some (.array n e)) (h : Value.okWide P w r b0 t v) : ∃ cs, v = .agg cs ∧ cs.size = P.cellsOf t := by
  simp only [Value.okWide, ht] at h
  obtain ⟨cs, h1, h2, _⟩ := h
  exact ⟨cs, h1, h2⟩
theorem agg_nums (n : Nat) (cs : Array Value) (hs : cs.size = n) (key : ∀ i, i < n → ∃ z, cs.toList[i]? = some (.int .i64 z) ∧ (Lit.int .i64 z).wf = true) :
    ∃ zs : List Int, zs.length = n ∧ cs = nums zs ∧ ∀ k, k < zs.length → (Lit.int .i64 (zs.getD k 0)).wf = true := by
  have key2 : ∀ i, ∃ z : Int, i < n → cs.toList[i]? = some (.int .i64 z) ∧ (Lit.int .i64 z).wf = true := fun i => by
    by_cases h : i < n
    · obtain ⟨z, hz⟩ := key i h; exact ⟨z, fun _ => hz⟩
    · exact ⟨0, fun h' => absurd h' h⟩
  obtain ⟨G, hG⟩ := Classical.axiomOfChoice key2
  refine ⟨(List.range n).map G, by simp, ?_, fun k hk => ?_⟩
  · apply Array.ext'
    apply List.ext_getElem?
    intro i
    by_cases h : i < n
    · rw [(hG i h).1]; simp [nums, h]
    · rw [List.getElem?_eq_none (by simp; omega), List.getElem?_eq_none (by simp [nums]; omega)]
  · simp at hk
    rw [getD_at _ _ _ (by simpa using hk)]
    simpa using (hG k hk).2
theorem inArr_of {r : Reach} {b0 n : Nat} {t e : TypeId} {v : Value} {d : DataW H} {ps : List MemPlace} (ht : P.underlying t = some (.array n e)) (he : P.underlying e = some (.int .i64)) (hc : P.cellsOf e = 1) (hct : P.cellsOf t = n)
    (hval : Value.okWide P w r b0 t v) (h : DataW.Trod enc P w base spare held t v d ps) : ∃ zs : List Int, zs.length = n ∧ v = .agg (nums zs) ∧ ∀ k, k < zs.length → (Lit.int .i64 (zs.getD k 0)).wf = true := by
  obtain ⟨cs, rfl, hs⟩ := okWide_agg_arr ht hval
  obtain ⟨fuel, hf⟩ := h
  obtain ⟨xs, m, _, _, hl, hxl, hi⟩ := DataW.trod_array ht hf
  have hcs : (Value.agg cs).cells.toList = cs.toList := rfl
  rw [hcs] at hi
  rw [hct] at hs
  obtain ⟨zs, h1, h2, h3⟩ := agg_nums n cs hs (fun i hin => by
    have h1 := hi i hin
    rw [hc, List.getElem?_eq_getElem (by omega)] at h1
    obtain ⟨z, hz, _, hwf⟩ := DataW.trod_int he h1
    have hlt : i < cs.toList.length := by simp; omega
    rw [Nat.mul_one, List.drop_eq_getElem_cons hlt] at hz
    simp only [List.take_succ_cons, List.take_zero, List.cons.injEq, and_true] at hz
    exact ⟨z, by rw [List.getElem?_eq_getElem hlt, hz], hwf⟩)
  exact ⟨zs, h1, by rw [h2], h3⟩
/-- a field of a struct that came in by value -/
theorem str_field {r : Reach} {b0 : Nat} {t : TypeId} {fs : Array Field} {v : Value} {d : DataW H} {ps : List MemPlace} (ht : P.underlying t = some (.struct fs)) (hval : Value.okWide P w r b0 t v) (h : DataW.Trod enc P w base spare held t v d ps) :
    ∃ cs, v = .agg cs ∧ cs.size = P.cellsOf t ∧ ∀ (j : Nat) (f : Field), fs[j]? = some f → f.offset = j → P.cellsOf f.type = 1 → j < cs.size → ∃ (u : Value) (m : Nat) (y : DataW H × List MemPlace), cs.toList[j]? = some u ∧ DataW.trod enc P w base spare held m f.type [u] = some y := by
  obtain ⟨cs, rfl, hs⟩ := okWide_struct ht hval
  obtain ⟨fuel, hf⟩ := h
  obtain ⟨xs, m, _, _, hl, hxl, hi⟩ := DataW.trod_struct ht hf
  refine ⟨cs, rfl, hs, fun j f hj ho hc hlt => ?_⟩
  have h1 := hi j f hj
  have hcs : (Value.agg cs).cells.toList = cs.toList := rfl
  rw [hcs, ho, hc] at h1
  have hxs : j < xs.length := by rw [hxl]; exact (Array.getElem?_eq_some_iff.1 hj).1
  rw [List.getElem?_eq_getElem hxs] at h1
  have hlt' : j < cs.toList.length := by simpa using hlt
  rw [List.drop_eq_getElem_cons hlt'] at h1
  simp only [List.take_succ_cons, List.take_zero] at h1
  exact ⟨_, m, _, List.getElem?_eq_getElem hlt', h1⟩
theorem inStr_of {r : Reach} {b0 n : Nat} {t : TypeId} {fs : Array Field} {v : Value} {d : DataW H} {ps : List MemPlace} (ht : P.underlying t = some (.struct fs)) (hn : P.cellsOf t = n) (hsz : fs.size = n)
    (hf : ∀ j, j < n → ∃ f, fs[j]? = some f ∧ f.offset = j ∧ P.underlying f.type = some (.int .i64) ∧ P.cellsOf f.type = 1) (hval : Value.okWide P w r b0 t v) (h : DataW.Trod enc P w base spare held t v d ps) :
    ∃ zs : List Int, zs.length = n ∧ v = .agg (nums zs) ∧ ∀ k, k < zs.length → (Lit.int .i64 (zs.getD k 0)).wf = true := by
  obtain ⟨cs, rfl, hs, hfield⟩ := str_field ht hval h
  rw [hn] at hs
  obtain ⟨zs, h1, h2, h3⟩ := agg_nums n cs hs (fun i hin => by
    obtain ⟨f, f1, f2, f3, f4⟩ := hf i hin
    obtain ⟨u, m, y, hu, ht'⟩ := hfield i f f1 f2 f4 (by omega)
    obtain ⟨z, hz, _, hwf⟩ := DataW.trod_int f3 ht'
    simp only [List.cons.injEq, and_true] at hz
    exact ⟨z, by rw [hu, hz], hwf⟩)
  exact ⟨zs, h1, by rw [h2], h3⟩
theorem fld_int {t : TypeId} {m : Nat} {u : Value} {y : DataW H × List MemPlace} (ht : P.underlying t = some (.int .i64)) (h : DataW.trod enc P w base spare held m t [u] = some y) : ∃ z, u = .int .i64 z ∧ (Lit.int .i64 z).wf = true := by
  obtain ⟨z, hz, _, hwf⟩ := DataW.trod_int ht h
  simp only [List.cons.injEq, and_true] at hz
  exact ⟨z, hz, hwf⟩
theorem fld_bool {t : TypeId} {m : Nat} {u : Value} {y : DataW H × List MemPlace} (ht : P.underlying t = some .bool) (h : DataW.trod enc P w base spare held m t [u] = some y) : ∃ b, u = .bool b := by
  obtain ⟨b, hb, _⟩ := DataW.trod_bool ht h
  simp only [List.cons.injEq, and_true] at hb
  exact ⟨b, hb⟩
theorem agg5_of {cs : Array Value} {a b c d e : Value} (hs : cs.size = 5) (h0 : cs.toList[0]? = some a) (h1 : cs.toList[1]? = some b) (h2 : cs.toList[2]? = some c) (h3 : cs.toList[3]? = some d) (h4 : cs.toList[4]? = some e) : cs = #[a, b, c, d, e] := by
  apply Array.ext'
  apply List.ext_getElem?
  intro i
  match i with
  | 0 => exact h0
  | 1 => exact h1
  | 2 => exact h2
  | 3 => exact h3
  | 4 => exact h4
  | i + 5 => rw [List.getElem?_eq_none (by simp; omega)]; rfl
end
end Go.Proofs.Ytfmamedkiaimpaa
