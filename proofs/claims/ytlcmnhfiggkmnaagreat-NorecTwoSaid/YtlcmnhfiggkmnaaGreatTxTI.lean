/- What NorecTwo takes over of the other laws' plain facts. -/
import Derived.Test.YtlcmnhfiggkmnaaGreatTxJ
namespace Go.Proofs.YtlcmnhfiggkmnaaGreat
open Go.RowKit
def dA (k : Int) : Int := dataP ⟨3, 1, 3, 0, 4⟩ k
structure TI (t : TxS) : Prop where
  v : t.V.length < 1000
  w : t.W.length ≤ 32
  jb : t.job = 0 ∨ t.job = 1 ∨ t.job = 2 ∨ t.job = 3 ∨ t.job = 4 ∨ t.job = 5
  ok : t.job = 0 ∨ t.job = 5 ∨ (t.job ≠ 0 ∧ t.job ≠ 5 ∧ seekOk t) ∨ (t.part < 8 ∧ t.job = 1) ∨ (t.job = 2 ∧ lookOk t) ∨ (t.job = 4 ∧ commitOk t)
theorem TI.step {t : TxS} (h : TI t) : StepOk t := ⟨Nat.lt_trans h.v (by decide), h.ok⟩
theorem TI.small {t : TxS} (h : TI t) : t.W.length < 4096 := by have := h.w; omega
theorem TI.new (th : Int) : TI (tx0 th) := ⟨(by decide : (0 : Nat) < 1000), (by decide : (0 : Nat) ≤ 32), .inl rfl, .inl rfl⟩
theorem TI.idle {t : TxS} (hv : t.V.length < 1000) (hw : t.W.length ≤ 32) (hj : t.job = 0) : TI t := ⟨hv, hw, .inl hj, .inl hj⟩
theorem TI.undo {t : TxS} (hv : t.V.length < 1000) (hw : t.W.length ≤ 32) (hj : t.job = 5) : TI t := ⟨hv, hw, .inr (.inr (.inr (.inr (.inr hj)))), .inr (.inl hj)⟩
theorem TI.undone {t : TxS} (hv : t.V.length < 1000) (hw : t.W.length ≤ 32) (hj : t.job = 5) : TI (undoneT t).1 := by
  unfold undoneT
  split
  · exact .undo hv hw hj
  · exact .idle hv hw rfl
theorem TI.abort {t : TxS} (hv : t.V.length < 1000) (hw : t.W.length ≤ 32) (c : Int) : TI (abortT t c).1 := TI.undone hv hw rfl
theorem TI.mayTake {t : TxS} (hv : t.V.length < 1000) (hw : t.W.length ≤ 32) (hj : t.job = 4) (hp : t.part = 4) : TI (mayTakeT t).1 := by
  unfold mayTakeT
  split
  · exact .abort hv hw 5
  · exact ⟨hv, hw, .inr (.inr (.inr (.inr (.inl hj)))), .inr (.inr (.inr (.inr (.inr ⟨hj, .inr (.inl hp)⟩))))⟩
theorem TI.found {t : TxS} (hv : t.V.length < 1000) (hw : t.W.length ≤ 32) (hj : t.job = 1 ∨ t.job = 2 ∨ t.job = 3 ∨ t.job = 4) : TI (foundT t).1 := by
  unfold foundT
  split
  · exact .idle hv hw rfl
  · split
    · exact TI.mayTake hv hw (by assumption) rfl
    · rename_i h3 h4
      rcases hj with h | h | h | h
      · exact ⟨hv, hw, .inr (.inl h), .inr (.inr (.inr (.inl ⟨by show (0 : Int) < 8; decide, h⟩)))⟩
      · exact ⟨hv, hw, .inr (.inr (.inl h)), .inr (.inr (.inr (.inr (.inl ⟨h, .inl rfl⟩))))⟩
      · exact absurd h h3
      · exact absurd h h4
theorem TI.settle {t : TxS} (hv : t.V.length < 1000) (hw : t.W.length ≤ 32) (hj : t.job = 4) (hi : 0 ≤ t.i) (hp : t.part = 2 ∨ t.part = 5 ∨ t.part = 7) : TI (settleT t) := by
  have J : ∀ {p : Prop}, p ∨ p ∨ p ∨ p ∨ t.job = 4 ∨ p := .inr (.inr (.inr (.inr (.inl hj))))
  have mk : ∀ t' : TxS, t'.V = t.V → t'.W = t.W → t'.job = t.job → commitOk t' → TI t' := fun t' e1 e2 e3 hc => ⟨by rw [e1]; exact hv, by rw [e2]; exact hw, by rw [e3]; exact .inr (.inr (.inr (.inr (.inl hj)))), .inr (.inr (.inr (.inr (.inr ⟨by rw [e3]; exact hj, hc⟩))))⟩
  have mk67 : ∀ (b : Bool) (t' : TxS), t'.part = (if b then 6 else 7) → commitOk t' := fun b t' e => by
    cases b
    · exact .inr (.inr (.inr (.inr (.inr e))))
    · exact .inr (.inr (.inr (.inr (.inl e))))
  unfold settleT
  split
  · split
    · rename_i h2 h; exact mk _ rfl rfl rfl (.inr (.inr (.inl ⟨h2, hi, h⟩)))
    · split
      · rename_i h; exact mk _ rfl rfl rfl (.inr (.inr (.inr (.inl ⟨rfl, by show (0 : Int) ≤ 0; decide, h⟩))))
      · exact mk _ rfl rfl rfl (mk67 t.took _ rfl)
  · split
    · split
      · rename_i h5 h; exact mk _ rfl rfl rfl (.inr (.inr (.inr (.inl ⟨h5, hi, h⟩))))
      · exact mk _ rfl rfl rfl (mk67 t.took _ rfl)
    · rename_i h2 h5
      rcases hp with h | h | h
      · exact absurd h h2
      · exact absurd h h5
      · exact mk _ rfl rfl rfl (.inr (.inr (.inr (.inr (.inr h)))))
theorem TI.lookEnd {t : TxS} (hv : t.V.length < 1000) (hw : t.W.length ≤ 32) (hj : t.job = 2) (hi : 0 ≤ t.i) (hp : t.part = 2) : TI (lookEnd t).1 := by
  unfold Proofs.YtlcmnhfiggkmnaaGreat.lookEnd
  split
  · rename_i h; exact ⟨hv, hw, .inr (.inr (.inl hj)), .inr (.inr (.inr (.inr (.inl ⟨hj, .inr (.inr ⟨hp, hi, h⟩)⟩))))⟩
  · exact .idle hv hw rfl
theorem TI.seek {t : TxS} (hv : t.V.length < 1000) (hw : t.W.length ≤ 32) (hj : t.job = 1 ∨ t.job = 2 ∨ t.job = 3 ∨ t.job = 4) (hs : seekOk t) : TI t :=
  ⟨hv, hw, by omega, .inr (.inr (.inl ⟨by omega, by omega, hs⟩))⟩
theorem TI.seekEnd {t : TxS} (hv : t.V.length < 1000) (hw : t.W.length ≤ 32) (hj : t.job = 1 ∨ t.job = 2 ∨ t.job = 3 ∨ t.job = 4) (hi : 0 ≤ t.i) (hp : t.part = 9 ∨ t.part = 11) : TI (seekEnd t).1 := by
  unfold Proofs.YtlcmnhfiggkmnaaGreat.seekEnd
  split
  · split
    · exact .seek hv hw hj (.inr (.inr (.inl rfl)))
    · rename_i h9 h; exact .seek hv hw hj (.inr (.inl ⟨h9, hi, (by omega : t.i < (t.R.length : Int))⟩))
  · split
    · rename_i h9 h
      have h11 : t.part = 11 := hp.resolve_left h9
      exact .seek hv hw hj (.inr (.inr (.inr ⟨h11, hi, h⟩)))
    · exact .found hv hw hj
theorem TI.seeks {t : TxS} (h : TI t) (M : MemS) (hj : t.job = 1 ∨ t.job = 2 ∨ t.job = 3 ∨ t.job = 4) (hs : seekOk t) : TI (seeksT M t).2.1 := by
  unfold seeksT
  split
  · rename_i h8
    dsimp only
    split
    · exact .seek h.v h.w hj (.inl h8)
    · exact TI.seekEnd (t := { t with now := M.atP 1, part := 9, i := 0 }) h.v h.w hj (by show (0 : Int) ≤ 0; decide) (.inl rfl)
  · split
    · rename_i h8 h9
      dsimp only
      have hi : 0 ≤ t.i := by rcases hs with e | ⟨_, e, _⟩ | e | ⟨e, _⟩ <;> omega
      split
      · exact TI.seekEnd (t := { t with i := t.i + 1 }) h.v h.w hj (by show (0 : Int) ≤ t.i + 1; omega) (.inl h9)
      · exact .abort h.v h.w 2
    · split
      · dsimp only
        split
        · exact TI.seekEnd (t := { t with part := 11, i := 0 }) h.v h.w hj (by show (0 : Int) ≤ 0; decide) (.inr rfl)
        · exact .seek h.v h.w hj (.inl rfl)
      · rename_i h8 h9 h10
        have h11 : t.part = 11 := by rcases hs with e | ⟨e, _⟩ | e | ⟨e, _⟩ <;> omega
        dsimp only
        by_cases hc : (watchesT M t t.i.toNat).2.2 = true
        · rw [if_pos hc]; exact TI.seekEnd (t := { t with i := (t.i.toNat : Int) + 1 }) h.v h.w hj (by show (0 : Int) ≤ (t.i.toNat : Int) + 1; omega) (.inr h11)
        · rw [if_neg hc]; exact TI.abort (t := { t with i := (t.i.toNat : Int) + 1 }) h.v h.w 3
theorem TI.look {t : TxS} (h : TI t) (M : MemS) (hj : t.job = 2) (hs : lookOk t) : TI (lookT M t).2.1 := by
  unfold lookT
  split
  · exact ⟨h.v, h.w, .inr (.inr (.inl hj)), .inr (.inr (.inr (.inr (.inl ⟨hj, .inr (.inl rfl)⟩))))⟩
  · split
    · dsimp only
      split
      · exact TI.lookEnd (t := { t with part := 2, i := 0 }) h.v h.w hj (by show (0 : Int) ≤ 0; decide) rfl
      · exact .seek h.v h.w (.inr (.inl hj)) (.inl rfl)
    · rename_i h0 h1
      have h2 : t.part = 2 := by rcases hs with e | e | ⟨e, _⟩ <;> omega
      dsimp only
      by_cases hc : (watchesT M t t.i.toNat).2.2 = true
      · rw [if_pos hc]; exact TI.lookEnd (t := { t with i := (t.i.toNat : Int) + 1 }) h.v h.w hj (by show (0 : Int) ≤ (t.i.toNat : Int) + 1; omega) h2
      · rw [if_neg hc]; exact TI.abort (t := { t with i := (t.i.toNat : Int) + 1 }) h.v h.w 3
theorem TI.commit {t : TxS} (h : TI t) (M : MemS) (hj : t.job = 4) (hs : commitOk t) : TI (commitT M t).2.1 := by
  unfold commitT
  split
  · dsimp only
    split
    · exact TI.mayTake (t := { t with phased := true, part := 4 }) h.v h.w hj rfl
    · exact TI.settle (t := { t with phased := true, part := 2, i := 0 }) h.v h.w hj (by show (0 : Int) ≤ 0; decide) (.inl rfl)
  · split
    · dsimp only
      split
      · exact TI.settle (t := { t with took := true, made := wrap64 (t.stamp + 2), part := 2, i := 0 }) h.v h.w hj (by show (0 : Int) ≤ 0; decide) (.inl rfl)
      · exact .seek h.v h.w (.inr (.inr (.inr hj))) (.inl rfl)
    · split
      · rename_i h2
        dsimp only
        by_cases hc : (watchesT M t t.i.toNat).2.2 = true
        · rw [if_pos hc]; exact TI.settle (t := { t with i := (t.i.toNat : Int) + 1 }) h.v h.w hj (by show (0 : Int) ≤ (t.i.toNat : Int) + 1; omega) (.inl h2)
        · rw [if_neg hc]; exact TI.abort (t := { t with i := (t.i.toNat : Int) + 1 }) h.v h.w 3
      · split
        · rename_i h3 h4 h2 h5
          have hi : 0 ≤ t.i := by rcases hs with e | e | ⟨e, _⟩ | ⟨_, e, _⟩ | e | e <;> omega
          exact TI.settle (t := { t with i := t.i + 1 }) h.v h.w hj (by show (0 : Int) ≤ t.i + 1; omega) (.inr (.inl h5))
        · split
          · rename_i h3 h4 h2 h5 h6
            unfold settleT
            exact ⟨h.v, h.w, .inr (.inr (.inr (.inr (.inl hj)))), .inr (.inr (.inr (.inr (.inr ⟨hj, .inr (.inr (.inr (.inr (.inr rfl))))⟩))))⟩
          · dsimp only
            split
            · exact .idle h.v h.w rfl
            · exact .idle h.v h.w rfl
theorem TI.stepX {t : TxS} (h : TI t) (M : MemS) : TI (stepX M t).2.1 := by
  unfold Proofs.YtlcmnhfiggkmnaaGreat.stepX
  split
  · exact h
  · split
    · rename_i h0 h5
      unfold undoT
      split
      · exact TI.undone (t := { t with took := false }) h.v h.w h5
      · exact TI.undone (t := { t with phased := false }) h.v h.w h5
    · rename_i h0 h5
      split
      · rename_i h8
        refine h.seeks M (by have := h.jb; omega) ?_
        rcases h.ok with e | e | ⟨_, _, e⟩ | ⟨e, _⟩ | ⟨_, e⟩ | ⟨_, e⟩
        · exact absurd e h0
        · exact absurd e h5
        · exact e
        · omega
        · rcases e with e | e | ⟨e, _⟩ <;> omega
        · rcases e with e | e | ⟨e, _⟩ | ⟨e, _⟩ | e | e <;> omega
      · rename_i h8
        have nos : ¬ seekOk t := by rintro (e | ⟨e, _⟩ | e | ⟨e, _⟩) <;> omega
        split
        · rename_i h1
          dsimp only
          split
          · exact h
          · exact .idle h.v h.w rfl
        · split
          · rename_i h1 h2
            refine h.look M h2 ?_
            rcases h.ok with e | e | ⟨_, _, e⟩ | ⟨_, e⟩ | ⟨_, e⟩ | ⟨e, _⟩
            · exact absurd e h0
            · exact absurd e h5
            · exact absurd e nos
            · exact absurd e h1
            · exact e
            · omega
          · rename_i h1 h2
            rcases h.ok with e | e | ⟨_, _, e⟩ | ⟨_, e⟩ | ⟨e, _⟩ | ⟨e, e2⟩
            · exact absurd e h0
            · exact absurd e h5
            · exact absurd e nos
            · exact absurd e h1
            · exact absurd e h2
            · exact h.commit M e e2
theorem putW32 (l : List (Int × Int)) (k x : Int) (h : l.length ≤ 32) : (putW 32 l k x).length ≤ 32 := by
  unfold putW
  split
  · exact h
  · split
    · simpa using h
    · split
      · simp; omega
      · exact h
theorem TI.begin {t : TxS} (h : TI t) : TI (beginT t).1 := by
  unfold beginT
  split
  · exact ⟨(by decide : (0 : Nat) < 1000), (by decide : (0 : Nat) ≤ 32), .inr (.inl rfl), .inr (.inr (.inr (.inl ⟨by show (0 : Int) < 8; decide, rfl⟩)))⟩
  · exact h
theorem TI.commitAsk {t : TxS} (h : TI t) : TI (commitAsk t).1 := by
  unfold Proofs.YtlcmnhfiggkmnaaGreat.commitAsk
  split
  · exact ⟨h.v, h.w, .inr (.inr (.inr (.inr (.inl rfl)))), .inr (.inr (.inr (.inr (.inr ⟨rfl, .inl rfl⟩))))⟩
  · exact h
theorem TI.read {t : TxS} (h : TI t) (p : Int) : TI (readT t p).1 := by
  unfold readT
  split
  · rename_i hj
    have hj : t.job = 0 := by simp at hj; exact hj.2
    split
    · exact .idle h.v h.w hj
    · split
      · exact TI.abort (t := { t with pl := p }) h.v h.w 4
      · exact ⟨h.v, h.w, .inr (.inr (.inl rfl)), .inr (.inr (.inr (.inr (.inl ⟨rfl, .inl rfl⟩))))⟩
  · exact h
theorem TI.write {t : TxS} (h : TI t) (p x : Int) : TI (writeT t p x).1 := by
  unfold writeT
  split
  · rename_i hj
    have hj : t.job = 0 := by simp at hj; exact hj.2
    split
    · exact .abort h.v h.w 4
    · split
      · exact .idle h.v (putW32 _ _ _ h.w) hj
      · exact TI.abort (t := { t with W := putW 32 t.W p x }) h.v (putW32 _ _ _ h.w) 4
  · exact h
theorem TI.kill {t : TxS} (h : TI t) (c : Int) : TI (killT t c).1 := by
  unfold killT
  split
  · exact .abort h.v h.w c
  · exact h
theorem TI.watch {t : TxS} (h : TI t) (p x : Int) (hv : t.V = []) (hj : t.job ≠ 2 ∨ True) (hjb : t.job = 0 ∨ t.job = 1) : TI (watchT t p x) := by
  unfold watchT
  split
  · refine ⟨by simp [hv], h.w, h.jb, ?_⟩
    rcases h.ok with e | e | ⟨e1, e2, e⟩ | e | ⟨e, _⟩ | ⟨e, _⟩
    · exact .inl e
    · exact .inr (.inl e)
    · refine .inr (.inr (.inl ⟨e1, e2, ?_⟩))
      rcases e with e | e | e | ⟨_, _, e⟩
      · exact .inl e
      · exact .inr (.inl e)
      · exact .inr (.inr (.inl e))
      · rw [hv] at e; simp at e; omega
    · exact .inr (.inr (.inr (.inl e)))
    · omega
    · omega
  · exact h
theorem dA_val : dA 0 = 26 ∧ dA 1 = 28 ∧ dA 2 = 30 ∧ dA 3 = 32 := ⟨by kernel_rfl, by kernel_rfl, by kernel_rfl, by kernel_rfl⟩
def isD (p : Int) : Prop := p = 26 ∨ p = 28 ∨ p = 30 ∨ p = 32
theorem dA_is (k : Int) (h0 : 0 ≤ k) (h4 : k < 4) : isD (dA k) := by
  obtain ⟨a, b, c, d⟩ := dA_val
  rcases (show k = 0 ∨ k = 1 ∨ k = 2 ∨ k = 3 by omega) with rfl | rfl | rfl | rfl
  · exact .inl a
  · exact .inr (.inl b)
  · exact .inr (.inr (.inl c))
  · exact .inr (.inr (.inr d))
theorem hash_ok (p : Int) (h : isD p) : ¬ hashV ⟨3, 1, 3, 0, 4⟩ p < 0 := by
  rcases h with rfl | rfl | rfl | rfl
  · exact of_decide_eq_false (by kernel_rfl)
  · exact of_decide_eq_false (by kernel_rfl)
  · exact of_decide_eq_false (by kernel_rfl)
  · exact of_decide_eq_false (by kernel_rfl)
end Go.Proofs.YtlcmnhfiggkmnaaGreat
