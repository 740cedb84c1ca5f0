/- Who comes first has it first, at layer 8's map (no program in sight). -/
import Derived.Test.YtodaiogefgdcpaaTicketPlain
namespace Go.Proofs.Ytodaiogefgdcpaa
open Go.RowKit
/-- the first loop: who is free, who came -/
structure ComeI (free came : List Nat) (M : MemS) : Prop where
  len : M.L.length = 48
  nx : M.word 5 = (came.length : Int)
  sv : M.word 6 = 0
  lc : free.length + came.length = 4
  lt : ∀ t ∈ free, t < 4
  ltc : ∀ t ∈ came, t < 4
  nd : came.Nodup
  ndf : free.Nodup
  dj : ∀ t ∈ free, t ∉ came
def comeF (came : List Nat) : Nat → HandS := fun t => if t ∈ came then ⟨t, 0, 1, false, (came.idxOf t : Nat)⟩ else hand0
theorem ComeI.start : ComeI [0, 1, 2, 3] [] (M0 48) :=
  ⟨by simp [M0, MemS.new], by kernel_rfl, by kernel_rfl, rfl, by decide, by simp, by simp, by decide, by simp⟩
theorem getD_mem {l : List Nat} {k : Nat} (h : k < l.length) : l.getD k 0 ∈ l := by
  rw [getD_at l 0 k h]; exact List.getElem_mem h
theorem take8_0 {M : MemS} (hM : M.L.length = 48) {t : Nat} (ht : t < 4) : tkTake ⟨2, 2, 4, 0, 2⟩ M ⟨t, 0, 0, false, 0⟩ = (M.add 5 1, ⟨t, 0, 1, false, M.word 5⟩) := by
  have h := tkTake8 hM ht (l := 0) (by decide) 0 false 0
  exact h
theorem take8_1 {M : MemS} (hM : M.L.length = 48) {t : Nat} (ht : t < 4) (x : Int) : tkTake ⟨2, 2, 4, 0, 2⟩ M ⟨t, 0, 1, false, x⟩ = (M.load 6, if M.word 6 = x then ⟨t, 0, 9, false, x⟩ else ⟨t, 0, 1, false, x⟩) := by
  have h := tkTake8 hM ht (l := 0) (by decide) 1 false x
  exact h
theorem drop8_9 {M : MemS} (hM : M.L.length = 48) {t : Nat} (ht : t < 4) (x : Int) : tkDrop ⟨2, 2, 4, 0, 2⟩ M ⟨t, 0, 9, false, x⟩ = (M.store 6 (wrap64 (x + 1)), ⟨t, 0, 0, false, 0⟩) := by
  have h := tkDrop8 hM ht (l := 0) (by decide) false x
  exact h
theorem split_at {l : List Nat} {k : Nat} (hk : k < l.length) : l = l.take k ++ l.getD k 0 :: l.drop (k + 1) := by
  rw [getD_at l 0 k hk]
  have h := List.take_append_drop k l
  rw [List.drop_eq_getElem_cons hk] at h
  exact h.symm
theorem idx_app {l : List Nat} {t j : Nat} (hj : j ∈ l) : (l ++ [t]).idxOf j = l.idxOf j := by
  rw [List.idxOf_append, if_pos hj]
theorem idx_new {l : List Nat} {t : Nat} (ht : t ∉ l) : (l ++ [t]).idxOf t = l.length := by
  rw [List.idxOf_append, if_neg ht]; simp
theorem ComeI.step {free came : List Nat} {M M' : MemS} {h' : HandS} {k t : Nat} (h : ComeI free came M) (hk : k < free.length) (ht : free.getD k 0 = t) (e : tkTake ⟨2, 2, 4, 0, 2⟩ M ⟨t, 0, 0, false, 0⟩ = (M', h')) :
    ComeI (free.take k ++ free.drop (k + 1)) (came ++ [t]) M' ∧ (∀ j, j < 4 → hput (comeF came) t h' j = comeF (came ++ [t]) j) := by
  have hm : t ∈ free := ht ▸ getD_mem hk
  have h4 := h.lt t hm
  have hn := h.dj t hm
  rw [take8_0 h.len h4] at e
  obtain ⟨rfl, rfl⟩ := Prod.mk.inj e
  have hlc := h.lc
  have hnx := h.nx
  have hsub : ∀ u, u ∈ free.take k ++ free.drop (k + 1) → u ∈ free := fun u hu => by
    rcases List.mem_append.1 hu with h | h
    · exact List.mem_of_mem_take h
    · exact List.mem_of_mem_drop h
  have hsp := split_at hk
  rw [ht] at hsp
  have hnf := h.ndf
  rw [hsp] at hnf
  have hnot : t ∉ free.take k ++ free.drop (k + 1) := by
    have := (List.perm_middle (a := t) (l₁ := free.take k) (l₂ := free.drop (k + 1))).nodup_iff.1 hnf
    exact (List.nodup_cons.1 this).1
  have hnd' : (free.take k ++ free.drop (k + 1)).Nodup := by
    have := (List.perm_middle (a := t) (l₁ := free.take k) (l₂ := free.drop (k + 1))).nodup_iff.1 hnf
    exact (List.nodup_cons.1 this).2
  have hcl : came.length ≤ 4 := by omega
  refine ⟨⟨len_add.trans h.len, ?_, ?_, ?_, fun u hu => h.lt u (hsub u hu), ?_, ?_, hnd', ?_⟩, ?_⟩
  · rw [word_add (by rw [h.len]; decide), if_pos rfl, wrap64_id (by omega) (by omega), hnx]; simp
  · rw [word_add (by rw [h.len]; decide), if_neg (by decide)]; exact h.sv
  · simp; omega
  · intro u hu
    rcases List.mem_append.1 hu with h1 | h1
    · exact h.ltc u h1
    · rw [List.mem_singleton.1 h1]; exact h4
  · exact List.nodup_append.2 ⟨h.nd, by simp, fun a ha b hb => by rw [List.mem_singleton.1 hb]; rintro rfl; exact hn ha⟩
  · intro u hu h1
    rcases List.mem_append.1 h1 with h2 | h2
    · exact h.dj u (hsub u hu) h2
    · rw [List.mem_singleton.1 h2] at hu; exact hnot hu
  · intro j hj
    unfold comeF
    by_cases ej : j = t
    · subst ej
      rw [hput_at, if_pos (by simp), idx_new hn, hnx]
    · rw [hput_ne _ _ _ ej]
      by_cases hjc : j ∈ came
      · rw [if_pos hjc, if_pos (by simp [hjc]), idx_app hjc]
      · rw [if_neg hjc, if_neg (by simp [hjc, ej])]
/-- the second loop: s were served and have left, d had it -/
def ordH (came : List Nat) (s d t : Nat) : HandS :=
  if came.idxOf t < s then ⟨t, 0, 0, false, 0⟩ else if came.idxOf t < d then ⟨t, 0, 9, false, (came.idxOf t : Nat)⟩ else ⟨t, 0, 1, false, (came.idxOf t : Nat)⟩
structure OrdI (came : List Nat) (s d : Nat) (M : MemS) : Prop where
  len : M.L.length = 48
  nx : M.word 5 = 4
  sv : M.word 6 = (s : Int)
  lc : came.length = 4
  lt : ∀ t ∈ came, t < 4
  nd : came.Nodup
  all : ∀ t, t < 4 → t ∈ came
  sd : s ≤ d
  ds : d ≤ s + 1
  d4 : d ≤ 4
theorem all_of {l : List Nat} (h4 : l.length = 4) (hlt : ∀ t ∈ l, t < 4) (hnd : l.Nodup) : ∀ t, t < 4 → t ∈ l := by
  intro t ht
  refine Classical.byContradiction fun hn => ?_
  have hsub : ∀ u ∈ t :: l, u ∈ [0, 1, 2, 3] := by
    intro u hu
    have hu4 : u < 4 := by
      rcases List.mem_cons.1 hu with rfl | h
      · exact ht
      · exact hlt u h
    match u, hu4 with
    | 0, _ => decide
    | 1, _ => decide
    | 2, _ => decide
    | 3, _ => decide
  have := (List.nodup_cons.2 ⟨hn, hnd⟩).length_le_of_subset hsub
  simp [h4] at this
theorem ComeI.ord {came : List Nat} {M : MemS} (h : ComeI [] came M) : OrdI came 0 0 M ∧ ∀ j, j < 4 → comeF came j = ordH came 0 0 j := by
  have hc : came.length = 4 := by have := h.lc; simpa using this
  have ha := all_of hc h.ltc h.nd
  refine ⟨⟨h.len, by rw [h.nx, hc]; rfl, h.sv, hc, h.ltc, h.nd, ha, by decide, by decide, by decide⟩, fun j hj => ?_⟩
  unfold comeF ordH
  rw [if_pos (ha j hj), if_neg (by omega), if_neg (by omega)]
theorem OrdI.idx {came : List Nat} {s d : Nat} {M : MemS} (h : OrdI came s d M) {t : Nat} (ht : t < 4) : came.idxOf t < 4 ∧ came.getD (came.idxOf t) 0 = t := by
  have h1 : came.idxOf t < came.length := List.idxOf_lt_length_iff.2 (h.all t ht)
  refine ⟨h.lc ▸ h1, ?_⟩
  rw [getD_at _ _ _ h1]; exact List.getElem_idxOf h1
theorem OrdI.at {came : List Nat} {s d : Nat} {M : MemS} (h : OrdI came s d M) {k : Nat} (hk : k < 4) : came.getD k 0 < 4 ∧ came.idxOf (came.getD k 0) = k := by
  have h1 : k < came.length := h.lc.symm ▸ hk
  rw [getD_at _ _ _ h1]
  exact ⟨h.lt _ (List.getElem_mem h1), h.nd.idxOf_getElem k h1⟩
theorem OrdI.inj {came : List Nat} {s d : Nat} {M : MemS} (h : OrdI came s d M) {j t : Nat} (hj : j < 4) (ht : t < 4) (e : came.idxOf j = came.idxOf t) : j = t := by
  rw [← (h.idx hj).2, ← (h.idx ht).2, e]
/-- what a pick meets -/
theorem OrdI.cases {came : List Nat} {s d : Nat} {M : MemS} (h : OrdI came s d M) {t : Nat} (ht : t < 4) :
    (ordH came s d t = ⟨t, 0, 0, false, 0⟩ ∧ (s < 4 → came.getD s 0 ≠ t)) ∨
    (ordH came s d t = ⟨t, 0, 9, false, (s : Nat)⟩ ∧ s < 4 ∧ d = s + 1 ∧ ∀ M' h', tkDrop ⟨2, 2, 4, 0, 2⟩ M ⟨t, 0, 9, false, (s : Nat)⟩ = (M', h') → OrdI came (s + 1) d M' ∧ ∀ j, j < 4 → hput (ordH came s d) t h' j = ordH came (s + 1) d j) ∨
    (ordH came s d t = ⟨t, 0, 1, false, (came.idxOf t : Nat)⟩ ∧ ∀ M' h', tkTake ⟨2, 2, 4, 0, 2⟩ M ⟨t, 0, 1, false, (came.idxOf t : Nat)⟩ = (M', h') →
      (h'.s = 9 ∧ d = s ∧ d < 4 ∧ came.getD d 0 = t ∧ OrdI came s (d + 1) M' ∧ ∀ j, j < 4 → hput (ordH came s d) t h' j = ordH came s (d + 1) j) ∨
      (h'.s = 1 ∧ came.getD s 0 ≠ t ∧ OrdI came s d M' ∧ ∀ j, j < 4 → hput (ordH came s d) t h' j = ordH came s d j)) := by
  obtain ⟨i4, hi⟩ := h.idx ht
  have hsd := h.sd
  have hds := h.ds
  have hd4 := h.d4
  by_cases h1 : came.idxOf t < s
  · refine .inl ⟨by unfold ordH; rw [if_pos h1], fun hs e => ?_⟩
    have := (h.at hs).2
    rw [e] at this; omega
  · by_cases h2 : came.idxOf t < d
    · have es : came.idxOf t = s := by omega
      have ed : d = s + 1 := by omega
      refine .inr (.inl ⟨by unfold ordH; rw [if_neg h1, if_pos h2, es], by omega, ed, fun M' h' e => ?_⟩)
      rw [drop8_9 h.len ht] at e
      obtain ⟨rfl, rfl⟩ := Prod.mk.inj e
      refine ⟨⟨len_store.trans h.len, ?_, ?_, h.lc, h.lt, h.nd, h.all, by omega, by omega, hd4⟩, fun j hj => ?_⟩
      · rw [word_store (by rw [h.len]; decide), if_neg (by decide)]; exact h.nx
      · rw [word_store (by rw [h.len]; decide), if_pos rfl, wrap64_id (by omega) (by omega)]; omega
      · by_cases ej : j = t
        · subst ej; rw [hput_at]; unfold ordH; rw [if_pos (by omega)]
        · rw [hput_ne _ _ _ ej]
          have hne : came.idxOf j ≠ s := fun e => ej (h.inj hj ht (e.trans es.symm))
          unfold ordH
          by_cases h3 : came.idxOf j < s
          · rw [if_pos h3, if_pos (by omega)]
          · rw [if_neg h3, if_neg (by omega), if_neg (by omega)]
    · refine .inr (.inr ⟨by unfold ordH; rw [if_neg h1, if_neg h2], fun M' h' e => ?_⟩)
      rw [take8_1 h.len ht] at e
      by_cases ex : came.idxOf t = s
      · rw [if_pos (by rw [h.sv, ex])] at e
        obtain ⟨rfl, rfl⟩ := Prod.mk.inj e
        have ed : d = s := by omega
        refine .inl ⟨rfl, ed, by omega, by rw [ed, ← ex]; exact hi, ⟨h.len, h.nx, h.sv, h.lc, h.lt, h.nd, h.all, by omega, by omega, by omega⟩, fun j hj => ?_⟩
        by_cases ej : j = t
        · subst ej; rw [hput_at]; unfold ordH; rw [if_neg h1, if_pos (by omega)]
        · rw [hput_ne _ _ _ ej]
          have hne : came.idxOf j ≠ s := fun e => ej (h.inj hj ht (e.trans ex.symm))
          unfold ordH
          by_cases h3 : came.idxOf j < s
          · rw [if_pos h3, if_pos h3]
          · rw [if_neg h3, if_neg h3, if_neg (by omega), if_neg (by omega)]
      · rw [if_neg (by rw [h.sv]; intro e; omega)] at e
        obtain ⟨rfl, rfl⟩ := Prod.mk.inj e
        refine .inr ⟨rfl, ?_, ⟨h.len, h.nx, h.sv, h.lc, h.lt, h.nd, h.all, by omega, by omega, by omega⟩, fun j hj => ?_⟩
        · intro e
          have hs4 : s < 4 := by omega
          have := (h.at hs4).2
          rw [e] at this; omega
        · by_cases ej : j = t
          · subst ej; rw [hput_at]; unfold ordH; rw [if_neg h1, if_neg h2]
          · rw [hput_ne _ _ _ ej]
/-- how far the turns have brought it -/
def Prog (base : Nat) (came : List Nat) (s p i : Nat) : Prop := base ≤ i → ∃ j, base + 4 * j ≤ i ∧ i < base + 4 * j + 4 ∧ (8 ≤ p ∨ j ≤ p) ∧ (p = j → p < 8 → ∀ k, base + 4 * j ≤ k → k < i → k % 4 ≠ came.getD s 0)
theorem Prog.start {base : Nat} {came : List Nat} {s p i : Nat} (h : i ≤ base) : Prog base came s p i := fun hb => by
  obtain rfl : i = base := by omega
  exact ⟨0, by omega, by omega, by omega, fun _ _ k h1 h2 => by omega⟩
theorem Prog.adv {base : Nat} {came : List Nat} {s s' p i : Nat} (h : Prog base came s p i) : Prog base came s' (p + 1) (i + 1) := by
  by_cases hb : i + 1 ≤ base
  · exact Prog.start hb
  · intro _
    obtain ⟨j, h1, h2, h3, _⟩ := h (by omega)
    by_cases h4 : i + 1 < base + 4 * j + 4
    · exact ⟨j, by omega, h4, by omega, fun e e8 => by omega⟩
    · exact ⟨j + 1, by omega, by omega, by omega, fun _ _ k h1 h2 => by omega⟩
theorem Prog.stay {base : Nat} {came : List Nat} {s p i : Nat} (h : Prog base came s p i) (hc : p < 8 → came.getD s 0 < 4) (hn : base ≤ i → p < 8 → came.getD s 0 ≠ i % 4) : Prog base came s p (i + 1) := by
  by_cases hb : i + 1 ≤ base
  · exact Prog.start hb
  · intro _
    obtain ⟨j, h1, h2, h3, h4⟩ := h (by omega)
    have hn := hn (by omega)
    by_cases h5 : i + 1 < base + 4 * j + 4
    · refine ⟨j, by omega, h5, by omega, fun e e8 k k1 k2 => ?_⟩
      by_cases ek : k = i
      · subst ek; exact fun e => hn e8 e.symm
      · exact h4 e e8 k k1 (by omega)
    · refine ⟨j + 1, by omega, by omega, ?_, fun _ _ k h1 h2 => by omega⟩
      by_cases e8 : p < 8
      · by_cases e : p = j
        · exfalso
          have hall : ∀ k, base + 4 * j ≤ k → k < base + 4 * j + 4 → k % 4 ≠ came.getD s 0 := fun k k1 k2 => by
            by_cases ek : k = i
            · subst ek; exact fun e => hn e8 e.symm
            · exact h4 e e8 k k1 (by omega)
          have c4 := hc e8
          have a0 := hall (base + 4 * j) (by omega) (by omega)
          have a1 := hall (base + 4 * j + 1) (by omega) (by omega)
          have a2 := hall (base + 4 * j + 2) (by omega) (by omega)
          have a3 := hall (base + 4 * j + 3) (by omega) (by omega)
          omega
        · omega
      · omega
theorem Prog.fin {base : Nat} {came : List Nat} {s p : Nat} (h : Prog base came s p (base + 40)) : 8 ≤ p := by
  obtain ⟨j, h1, h2, h3, h4⟩ := h (by omega)
  omega
theorem take_snoc_getD {l : List Nat} {d : Nat} (h : d < l.length) : l.take (d + 1) = l.take d ++ [l.getD d 0] := by
  rw [List.take_succ_eq_append_getElem h, getD_at l 0 d h]
end Go.Proofs.Ytodaiogefgdcpaa
