/- Bumps at layer 8's map: what a step does (no program in sight). -/
import Derived.Test.YtodaiogefgdcpaaClockTold
namespace Go.Proofs.Ytodaiogefgdcpaa
open Go.RowKit
theorem wordC_set {L : List Int} {st : Int} {la : Acc} {i j : Nat} {x : Int} (hi : i < L.length) : MemS.word ⟨L.set i x, st, la⟩ j = if j = i then x else MemS.word ⟨L, st, la⟩ j := by
  unfold MemS.word
  rw [List.getD_eq_getElem?_getD, List.getD_eq_getElem?_getD, List.getElem?_set]
  by_cases e : i = j
  · subst e; simp [hi]
  · rw [if_neg e, if_neg (Ne.symm e)]
theorem wordC_add {M : MemS} {i j : Nat} {d : Int} (hi : i < M.L.length) : (M.add i d).word j = if j = i then wrap64 (M.word i + d) else M.word j := wordC_set hi
theorem wordC_store {M : MemS} {i j : Nat} {x : Int} (hi : i < M.L.length) : (M.store i x).word j = if j = i then x else M.word j := wordC_set hi
theorem wordC_load {M : MemS} {i j : Nat} : (M.load i).word j = M.word j := rfl
theorem wordC_swap {M : MemS} {i j : Nat} {o x : Int} (hi : i < M.L.length) : (M.swap i o x).word j = if j = i ∧ M.word i = o then x else M.word j := by
  by_cases h : M.word i = o
  · have hb : (M.word i == o) = true := by rw [h]; simp
    have e : (M.swap i o x).word j = MemS.word ⟨M.L.set i x, (M.swap i o x).st, (M.swap i o x).last⟩ j := by
      show (MemS.L (M.swap i o x)).getD j 0 = (M.L.set i x).getD j 0
      have : (M.swap i o x).L = M.L.set i x := by
        show (if M.word i == o then M.L.set i x else M.L) = _
        rw [hb]; rfl
      rw [this]
    rw [e, wordC_set hi]
    by_cases e2 : j = i
    · rw [if_pos e2, if_pos ⟨e2, h⟩]
    · rw [if_neg e2, if_neg (fun h' => e2 h'.1)]; rfl
  · rw [if_neg (fun h' => h h'.2)]
    unfold MemS.swap
    rw [show (M.word i == o) = false from beq_eq_false_iff_ne.2 h]
    rfl
theorem lenC_add {M : MemS} {i : Nat} {d : Int} : (M.add i d).L.length = M.L.length := by simp [MemS.add]
theorem lenC_store {M : MemS} {i : Nat} {d : Int} : (M.store i d).L.length = M.L.length := by simp [MemS.store]
theorem lenC_load {M : MemS} {i : Nat} : (M.load i).L.length = M.L.length := rfl
theorem lenC_swap {M : MemS} {i : Nat} {o x : Int} : (M.swap i o x).L.length = M.L.length := by
  unfold MemS.swap
  dsimp only
  split
  · simp
  · rfl
theorem ok8 : okB ⟨2, 2, 4, 0, 2⟩ 48 0 = true ∧ okB ⟨2, 2, 4, 0, 2⟩ 48 1 = true := ⟨by decide, by decide⟩
theorem step8_0 {M : MemS} (h : M.L.length = 48) (k x y : Int) : stepB ⟨2, 2, 4, 0, 2⟩ M ⟨k, 0, x, y⟩ = stepK M ⟨k, 0, x, y⟩ := by
  unfold stepB; dsimp only; rw [h, ok8.1, if_pos rfl]
theorem step8_1 {M : MemS} (h : M.L.length = 48) (k x y : Int) : stepB ⟨2, 2, 4, 0, 2⟩ M ⟨k, 1, x, y⟩ = stepK M ⟨k, 1, x, y⟩ := by
  unfold stepB; dsimp only; rw [h, ok8.2, if_pos rfl]
theorem step3_odd {M : MemS} (h : M.L.length = 48) {x y : Int} (ho : ¬ M.word 1 % 2 = 0) : stepB ⟨2, 2, 4, 0, 2⟩ M ⟨3, 0, x, y⟩ = (M.load 1, ⟨3, 0, x, y⟩) := by
  rw [step8_0 h]
  simp [stepK, lookB, ho]
theorem step3_even {M : MemS} (h : M.L.length = 48) {x y : Int} (ho : M.word 1 % 2 = 0) : stepB ⟨2, 2, 4, 0, 2⟩ M ⟨3, 0, x, y⟩ = (M.load 1, ⟨3, 1, M.word 1, y⟩) := by
  rw [step8_0 h]
  simp [stepK, lookB, ho]
theorem step3_swap {M : MemS} (h : M.L.length = 48) {x y : Int} (ho : M.word 1 = x) : stepB ⟨2, 2, 4, 0, 2⟩ M ⟨3, 1, x, y⟩ = (M.swap 1 x (wrap64 (x + 2)), ⟨3, 9, x, wrap64 (x + 2)⟩) := by
  rw [step8_1 h]
  simp [stepK, swapB, byB, ho]
theorem step3_miss {M : MemS} (h : M.L.length = 48) {x y : Int} (ho : ¬ M.word 1 = x) : stepB ⟨2, 2, 4, 0, 2⟩ M ⟨3, 1, x, y⟩ = (M.swap 1 x (wrap64 (x + 2)), ⟨3, 0, 0, y⟩) := by
  rw [step8_1 h]
  simp [stepK, swapB, byB, ho]
theorem step1_add {M : MemS} (h : M.L.length = 48) {x y : Int} : stepB ⟨2, 2, 4, 0, 2⟩ M ⟨1, 0, x, y⟩ = (M.add 0 1, ⟨1, 9, x, wrap64 (M.word 0 + 1)⟩) := by
  rw [step8_0 h]
  simp [stepK]
theorem step2_look {M : MemS} (h : M.L.length = 48) {x y : Int} : stepB ⟨2, 2, 4, 0, 2⟩ M ⟨2, 0, x, y⟩ = (M.load 0, ⟨2, 1, M.word 0, y⟩) := by
  rw [step8_0 h]
  simp [stepK, lookB]
theorem step2_swap {M : MemS} (h : M.L.length = 48) {x y : Int} (ho : M.word 0 = x) : stepB ⟨2, 2, 4, 0, 2⟩ M ⟨2, 1, x, y⟩ = (M.swap 0 x (wrap64 (x + 1)), ⟨2, 9, x, wrap64 (x + 1)⟩) := by
  rw [step8_1 h]
  simp [stepK, swapB, byB, ho]
theorem step2_miss {M : MemS} (h : M.L.length = 48) {x y : Int} (ho : ¬ M.word 0 = x) : stepB ⟨2, 2, 4, 0, 2⟩ M ⟨2, 1, x, y⟩ = (M.swap 0 x (wrap64 (x + 1)), ⟨2, 9, x, M.word 0⟩) := by
  rw [step8_1 h]
  simp [stepK, swapB, byB, ho]
theorem atP_nat {M : MemS} {n : Nat} (h : n < M.L.length) : M.atP (n : Int) = M.word n := by
  unfold MemS.atP
  rw [inR_nat h]
  rfl
end Go.Proofs.Ytodaiogefgdcpaa
