/- Many picks of one attempt; what is left at the end (plain). -/
import Derived.Test.YtfmamedkiaimpaaTxS3
namespace Go.Proofs.Ytfmamedkiaimpaa
open Go.RowKit
abbrev St3 := MemS × TxS × RunM
def nx3 (s : St3) : St3 := nextU s.1 s.2.1 s.2.2
def itN : Nat → St3 → St3
  | 0, s => s
  | n + 1, s => nx3 (itN n s)
theorem it_fin (s : St3) (k : Nat) (h : (itN k s).2.2.fin ≠ 0) : ∀ n, k ≤ n → itN n s = itN k s := by
  intro n hn
  obtain ⟨d, rfl⟩ : ∃ d, n = k + d := ⟨n - k, by omega⟩
  induction d with
  | zero => rfl
  | succ d ih =>
    have e := ih (by omega)
    show nx3 (itN (k + d) s) = _
    rw [e]
    unfold nx3
    rw [next_end _ _ _ h]
def run0 (P : List OpZ) : RunM := ⟨P, 0, false, 0, []⟩
theorem RI.new {P : List OpZ} (h : P.length ≤ 8) : RI (run0 P) := ⟨Int.le_refl _, by show (0 : Int) ≤ (P.length : Int) + 1; omega, by show P.length ≤ 1000; omega, Int.le_refl _⟩
theorem it_TI {s : St3} (h : TI s.2.1) : ∀ n, TI (itN n s).2.1
  | 0 => h
  | n + 1 => next_TI (it_TI h n) _ _
theorem it_RI {s : St3} (h : RI s.2.2) : ∀ n, RI (itN n s).2.2
  | 0 => h
  | n + 1 => next_RI (it_RI h n) _ _
theorem undoT_len (M : MemS) (t : TxS) : (undoT M t).1.L.length = M.L.length := by
  unfold undoT
  split <;> exact storeI_len _ _ _
theorem stepX_len (M : MemS) (t : TxS) : (stepX M t).1.L.length = M.L.length := by
  unfold stepX
  split
  · rfl
  · split
    · exact undoT_len M t
    · split
      · unfold seeksT
        split
        · rw [loadI_L]
        · split
          · rw [loadI_L]
          · split
            · rw [loadI_L]
            · show (M.loadI _).L.length = _
              rw [loadI_L]
      · split
        · rw [loadI_L]
        · split
          · unfold lookT
            split
            · rw [loadI_L]
            · split
              · rw [loadI_L]
              · show (M.loadI _).L.length = _
                rw [loadI_L]
          · unfold commitT
            split
            · exact storeI_len _ _ _
            · split
              · exact swapI_len _ _ _ _
              · split
                · show (M.loadI _).L.length = _
                  rw [loadI_L]
                · split
                  · exact storeI_len _ _ _
                  · split
                    · exact storeI_len _ _ _
                    · exact storeI_len _ _ _
theorem next_len (M : MemS) (t : TxS) (u : RunM) : (nextU M t u).1.L.length = M.L.length := by
  unfold nextU
  split
  · rfl
  · split
    · rfl
    · exact stepX_len _ _
theorem it_len {s : St3} (h : s.1.L.length = 34) : ∀ n, (itN n s).1.L.length = 34
  | 0 => h
  | n + 1 => (next_len _ _ _).trans (it_len h n)
/-- the first pick -/
theorem on_first (P : List OpZ) : SgOk P false 0 (nextU (M0 34) (tx0 1) (run0 P)).1 (nextU (M0 34) (tx0 1) (run0 P)).2.1 (nextU (M0 34) (tx0 1) (run0 P)).2.2 .id ∧ (nextU (M0 34) (tx0 1) (run0 P)).2.2.i = 1 ∧ (nextU (M0 34) (tx0 1) (run0 P)).2.1.V = [] ∧ (nextU (M0 34) (tx0 1) (run0 P)).2.1.job = 0 := by
  have ha : askU (tx0 1) (run0 P) = (T1, { run0 P with busy := true }) := by
    unfold askU
    rw [show askR (tx0 1) (run0 P) = (T1, 0) from rfl]
    rfl
  have hl : askLoop ((run0 P).P.length + 3) (tx0 1) (run0 P) = (T1, { run0 P with busy := true }) := by
    rw [loop_in _ _ _ ⟨rfl, rfl⟩, ha, loop_out _ _ _ (by simp)]
  have hb : SgOk P false 0 (M0 34) T1 { run0 P with busy := true } .bg :=
    ⟨⟨rfl, rfl, rfl, rfl, fun e h => absurd h (by show ¬ e ∈ ([] : List (Int × Int)); simp), fun e h => absurd h (by show ¬ e ∈ ([] : List (Int × Int)); simp), (by show ([] : List Int).Nodup; simp), Int.le_refl _, Int.le_refl _, Int.le_refl _, by show (0 : Int) ≤ (P.length : Int) + 1; omega, MZ.new⟩, ⟨rfl, rfl, rfl, rfl, rfl, rfl, rfl, rfl, rfl⟩, rfl⟩
  rw [next_step (M0 34) (tx0 1) T1 (run0 P) { run0 P with busy := true } rfl hl rfl]
  have h := on_bg hb rfl
  have e : stepX (M0 34) T1 = ((M0 34).loadI 1, (doneT { T1 with stamp := (M0 34).atP 1 }, 1)) := by
    rw [stepX_bg rfl rfl, MZ.new.s1, odd0]; rfl
  refine ⟨h, ?_, ?_, ?_⟩
  · rw [stepU_c1 e]
    exact (done_mid _ (by show (0 : Int) ≤ (P.length : Int); omega)).1
  · rw [stepU_c1 e]; rfl
  · rw [stepU_c1 e]; rfl
section
variable {P : List OpZ} {wt : Bool} {lw : Int} {M : MemS} {t : TxS} {u : RunM}
theorem mu_nn (hp : PlOk P) {s : Sg} (h : SgOk P wt lw M t u s) : 0 ≤ mu P t u s := by
  have hp8 := hp.len
  cases s with
  | bg => simp only [mu]; omega
  | id => have := h.1.i2; simp only [mu]; omega
  | lk p => have := h.2.2.2.1; have := h.2.2.2.2.1; simp only [mu]; omega
  | c3 => simp only [mu]; omega
  | c4 => simp only [mu]; omega
  | c2 tk => simp only [mu]; omega
  | d5 k => have := h.2.2.2.2; simp only [mu]; omega
  | d6 => simp only [mu]; omega
  | d7 => simp only [mu]; omega
  | e5 => simp only [mu]; omega
  | u6 tk => have := b2_le tk; simp only [mu]; omega
  | e7 => simp only [mu]; omega
theorem mu_le (hp : PlOk P) {s : Sg} (h : SgOk P wt lw M t u s) : mu P t u s ≤ 99 := by
  have hp8 := hp.len
  cases s with
  | bg => simp only [mu]; omega
  | id => have := h.2.2; simp only [mu]; omega
  | lk p => have := h.2.2.1; simp only [mu]; omega
  | c3 => simp only [mu]; omega
  | c4 => simp only [mu]; omega
  | c2 tk => simp only [mu]; omega
  | d5 k => have := h.1.wl; have := h.1.i2; simp only [mu]; omega
  | d6 => simp only [mu]; omega
  | d7 => simp only [mu]; omega
  | e5 => simp only [mu]; omega
  | u6 tk => have := b2_le tk; simp only [mu]; omega
  | e7 => simp only [mu]; omega
/-- many picks -/
theorem on_many (hp : PlOk P) (hl : lw = 0 ∨ wt = true) {s : Sg} {z : St3} (h : SgOk P wt lw z.1 z.2.1 z.2.2 s) (hb : s ≠ .bg) : ∀ n, ∃ s', SgOk P wt lw (itN n z).1 (itN n z).2.1 (itN n z).2.2 s' ∧ s' ≠ .bg ∧
    ((itN n z).2.2.fin ≠ 0 ∨ mu P (itN n z).2.1 (itN n z).2.2 s' + n ≤ mu P z.2.1 z.2.2 s) ∧ (s.dec → s'.dec) ∧ (lw ≠ 0 → ¬ s.dec → ¬ s'.dec) ∧ (lw = 0 → (∀ tk, s ≠ .u6 tk) → s ≠ .e7 → (∀ tk, s' ≠ .u6 tk) ∧ s' ≠ .e7)
  | 0 => ⟨s, h, hb, .inr (by show _ + (0 : Int) ≤ _; simp only [itN]; omega), fun z => z, fun _ z => z, fun _ z z2 => ⟨z, z2⟩⟩
  | n + 1 => by
    obtain ⟨s', g, gb, gm, gd, gn, gu⟩ := on_many hp hl h hb n
    by_cases hf : (itN n z).2.2.fin = 0
    · obtain ⟨s2, k1, k2, k3, k4, k5, k6⟩ := on_next hp hl g gb hf
      refine ⟨s2, k1, k2, .inr ?_, fun y => k4 (gd y), fun y y2 => k5 y (gn y y2), fun y y2 y3 => k6 y (gu y y2 y3).1⟩
      have := gm.resolve_left (by simp [hf])
      show mu P (nextU _ _ _).2.1 (nextU _ _ _).2.2 s2 + ((n + 1 : Nat) : Int) ≤ _
      omega
    · have e : itN (n + 1) z = itN n z := it_fin z n hf (n + 1) (by omega)
      rw [e]
      exact ⟨s', g, gb, .inl hf, gd, gn, gu⟩
/-- the end -/
theorem fin_is (h : u.fin ≠ 0) {s : Sg} (hs : SgOk P wt lw M t u s) : s = .e5 ∨ s = .e7 := by
  cases s with
  | bg => exact absurd hs.2.1.fin h
  | id => exact absurd hs.2.1.fin h
  | lk p => exact absurd hs.2.1.fin h
  | c3 => exact absurd hs.2.1.fin h
  | c4 => exact absurd hs.2.1.fin h
  | c2 tk => exact absurd hs.2.1.fin h
  | d5 k => exact absurd hs.2.1.fin h
  | d6 => exact absurd hs.2.1.fin h
  | d7 => exact absurd hs.2.1.fin h
  | e5 => exact .inl rfl
  | u6 tk => exact absurd hs.2.1.fin h
  | e7 => exact .inr rfl
theorem dec_life {s : Sg} (hs : SgOk P wt lw M t u s) (hb : s ≠ .bg) : t.life = 2 ↔ s.dec := by
  cases s with
  | bg => exact absurd rfl hb
  | id => rw [hs.2.1.life]; simp [Sg.dec]
  | lk p => rw [hs.2.1.life]; simp [Sg.dec]
  | c3 => rw [hs.2.1.life]; simp [Sg.dec]
  | c4 => rw [hs.2.1.life]; simp [Sg.dec]
  | c2 tk => rw [hs.2.1.life]; simp [Sg.dec]
  | d5 k => rw [hs.2.1.life]; simp [Sg.dec]
  | d6 => rw [hs.2.1.life]; simp [Sg.dec]
  | d7 => rw [hs.2.1.life]; simp [Sg.dec]
  | e5 => rw [hs.2.life]; simp [Sg.dec]
  | u6 tk => rw [hs.2.1.life]; simp [Sg.dec]
  | e7 => rw [hs.2.1.life]; simp [Sg.dec]
/-- behind enough picks it has ended -/
theorem on_end (hp : PlOk P) (hl : lw = 0 ∨ wt = true) {s : Sg} {z : St3} (h : SgOk P wt lw z.1 z.2.1 z.2.2 s) (hb : s ≠ .bg) (n : Nat) (hn : 100 ≤ n) : (itN n z).2.2.fin ≠ 0 := by
  obtain ⟨s', g, _, gm, _⟩ := on_many hp hl h hb n
  rcases gm with gm | gm
  · exact gm
  · have h1 := mu_nn hp g
    have h2 := mu_le hp h
    omega
end
/-- what a killed attempt still undoes -/
def uS (x : MemS × TxS × Int) : MemS × TxS × Int := if x.2.2 = 0 then ((stepX x.1 x.2.1).1, (stepX x.1 x.2.1).2.1, (stepX x.1 x.2.1).2.2) else x
def uN (M : MemS) (t : TxS) (c : Int) : Nat → MemS × TxS × Int
  | 0 => (M, (killT t c).1, (killT t c).2)
  | n + 1 => uS (uN M t c n)
theorem uN_TI {M : MemS} {t : TxS} {c : Int} (h : TI t) : ∀ n, TI (uN M t c n).2.1
  | 0 => h.kill c
  | n + 1 => by
    show TI (uS (uN M t c n)).2.1
    unfold uS
    split
    · exact (uN_TI h n).stepX _
    · exact uN_TI h n
theorem uN_len {M : MemS} {t : TxS} {c : Int} (h : M.L.length = 34) : ∀ n, (uN M t c n).1.L.length = 34
  | 0 => h
  | n + 1 => by
    show (uS (uN M t c n)).1.L.length = 34
    unfold uS
    split
    · exact (stepX_len _ _).trans (uN_len h n)
    · exact uN_len h n
theorem uN_stop {M : MemS} {t : TxS} {c : Int} {k : Nat} (h : (uN M t c k).2.2 ≠ 0) : ∀ n, k ≤ n → uN M t c n = uN M t c k := by
  intro n hn
  obtain ⟨d, rfl⟩ : ∃ d, n = k + d := ⟨n - k, by omega⟩
  induction d with
  | zero => rfl
  | succ d ih =>
    have e := ih (by omega)
    show uS (uN M t c (k + d)) = _
    rw [e]
    unfold uS
    rw [if_neg h]
structure Gone (M : MemS) (t : TxS) (e c lw : Int) : Prop where
  e : e = 2
  life : t.life = 3
  job : t.job = 0
  cause : t.cause = c
  made : t.made = 0
  mz : MZ M 0 0 lw []
/-- killed, it is gone in two steps -/
theorem kill_gone {P : List OpZ} {wt : Bool} {lw c : Int} {M : MemS} {t : TxS} {u : RunM} {tk pz : Bool} (hb : Bs P wt lw M t u (b2 tk 1) (b2 pz 2) []) (hl : t.life = 1) (hs : t.stamp = 0) (ht : t.took = tk) (hz : t.phased = pz) (n : Nat) (hn : 2 ≤ n) : Gone (uN M t c n).1 (uN M t c n).2.1 (uN M t c n).2.2 c lw := by
  have hk : killT t c = abortT t c := by unfold killT; rw [if_pos hl]
  have key : ∃ k, k ≤ 2 ∧ Gone (uN M t c k).1 (uN M t c k).2.1 (uN M t c k).2.2 c lw := by
    cases tk with
    | false =>
      cases pz with
      | false =>
        refine ⟨0, by omega, ?_⟩
        have e : abortT t c = ({ t with life := 3, cause := c, made := 0, job := 0, part := 0, i := 0 }, 2) := by
          unfold abortT undoneT; rw [if_neg (by show ¬ (t.took || t.phased) = true; rw [ht, hz]; decide)]
        show Gone M (killT t c).1 (killT t c).2 c lw
        rw [hk, e]
        exact ⟨rfl, rfl, rfl, rfl, rfl, hb.mz⟩
      | true =>
        refine ⟨1, by omega, ?_⟩
        have e : abortT t c = ({ t with life := 3, cause := c, made := 0, job := 5, part := 0, i := 0 }, 0) := by
          unfold abortT undoneT; rw [if_pos (by show (t.took || t.phased) = true; rw [ht, hz]; decide)]
        have e1 : stepX M { t with life := 3, cause := c, made := 0, job := 5, part := 0, i := 0 } = (M.storeI 13 0, ({ t with life := 3, cause := c, made := 0, job := 0, part := 0, i := 0, phased := false }, 2)) := by
          rw [stepX_undo rfl]; unfold undoT; rw [if_neg (by show ¬ t.took = true; rw [ht]; decide), ph_val _ (by show t.th = 1; exact hb.th)]; unfold undoneT; rw [if_neg (by show ¬ (t.took || false) = true; rw [ht]; decide)]
        show Gone (uS (M, (killT t c).1, (killT t c).2)).1 (uS (M, (killT t c).1, (killT t c).2)).2.1 (uS (M, (killT t c).1, (killT t c).2)).2.2 c lw
        rw [hk, e]
        unfold uS
        rw [if_pos rfl]
        dsimp only
        rw [e1]
        exact ⟨rfl, rfl, rfl, rfl, rfl, hb.mz.phase 0⟩
    | true =>
      have e : abortT t c = ({ t with life := 3, cause := c, made := 0, job := 5, part := 0, i := 0 }, 0) := by
        unfold abortT undoneT; rw [if_pos (by show (t.took || t.phased) = true; rw [ht]; rfl)]
      cases pz with
      | false =>
        refine ⟨1, by omega, ?_⟩
        have e1 : stepX M { t with life := 3, cause := c, made := 0, job := 5, part := 0, i := 0 } = (M.storeI 1 0, ({ t with life := 3, cause := c, made := 0, job := 0, part := 0, i := 0, took := false }, 2)) := by
          rw [stepX_undo rfl]; unfold undoT; rw [if_pos (by show t.took = true; exact ht)]; unfold undoneT; rw [if_neg (by show ¬ (false || t.phased) = true; rw [hz]; decide)]; show (M.storeI 1 t.stamp, _) = _; rw [hs]
        show Gone (uS (M, (killT t c).1, (killT t c).2)).1 (uS (M, (killT t c).1, (killT t c).2)).2.1 (uS (M, (killT t c).1, (killT t c).2)).2.2 c lw
        rw [hk, e]
        unfold uS
        rw [if_pos rfl]
        dsimp only
        rw [e1]
        exact ⟨rfl, rfl, rfl, rfl, rfl, hb.mz.seq 0⟩
      | true =>
        refine ⟨2, by omega, ?_⟩
        have e1 : stepX M { t with life := 3, cause := c, made := 0, job := 5, part := 0, i := 0 } = (M.storeI 1 0, ({ t with life := 3, cause := c, made := 0, job := 5, part := 0, i := 0, took := false }, 0)) := by
          rw [stepX_undo rfl]; unfold undoT; rw [if_pos (by show t.took = true; exact ht)]; unfold undoneT; rw [if_pos (by show (false || t.phased) = true; rw [hz]; rfl)]; show (M.storeI 1 t.stamp, _) = _; rw [hs]
        have e2 : stepX (M.storeI 1 0) { t with life := 3, cause := c, made := 0, job := 5, part := 0, i := 0, took := false } = ((M.storeI 1 0).storeI 13 0, ({ t with life := 3, cause := c, made := 0, job := 0, part := 0, i := 0, took := false, phased := false }, 2)) := by
          rw [stepX_undo rfl]; unfold undoT; rw [if_neg (by show ¬ false = true; decide), ph_val _ (by show t.th = 1; exact hb.th)]; unfold undoneT; rw [if_neg (by show ¬ (false || false) = true; decide)]
        have e3 : uS (M, (killT t c).1, (killT t c).2) = (M.storeI 1 0, { t with life := 3, cause := c, made := 0, job := 5, part := 0, i := 0, took := false }, 0) := by
          rw [hk, e]
          unfold uS
          rw [if_pos rfl]
          dsimp only
          rw [e1]
        show Gone (uS (uS (M, (killT t c).1, (killT t c).2))).1 (uS (uS (M, (killT t c).1, (killT t c).2))).2.1 (uS (uS (M, (killT t c).1, (killT t c).2))).2.2 c lw
        rw [e3]
        unfold uS
        rw [if_pos rfl]
        dsimp only
        rw [e2]
        exact ⟨rfl, rfl, rfl, rfl, rfl, (hb.mz.seq 0).phase 0⟩
  obtain ⟨k, hk2, hg⟩ := key
  rw [uN_stop (by rw [hg.e]; decide) n (by omega)]
  exact hg
def z0 (P : List OpZ) : St3 := (M0 34, tx0 1, run0 P)
theorem it_succ : ∀ (n : Nat) (s : St3), itN (n + 1) s = itN n (nx3 s)
  | 0, _ => rfl
  | n + 1, s => by
    show nx3 (itN (n + 1) s) = nx3 (itN n (nx3 s))
    rw [it_succ n s]
theorem first_z (P : List OpZ) : SgOk P false 0 (nx3 (z0 P)).1 (nx3 (z0 P)).2.1 (nx3 (z0 P)).2.2 .id ∧ (nx3 (z0 P)).2.1.V = [] ∧ (nx3 (z0 P)).2.1.job = 0 ∧ TI (nx3 (z0 P)).2.1 ∧ (nx3 (z0 P)).1.L.length = 34 := by
  unfold nx3 z0
  dsimp only
  exact ⟨(on_first P).1, (on_first P).2.2.1, (on_first P).2.2.2, next_TI (TI.new 1) _ _, (next_len _ _ _).trans (M0_len 34)⟩
theorem first_RI {P : List OpZ} (h : PlOk P) : RI (nx3 (z0 P)).2.2 := by
  unfold nx3 z0
  dsimp only
  exact next_RI (RI.new h.len) _ _
/-- behind the first pick -/
theorem on_run {P : List OpZ} (hp : PlOk P) (n : Nat) : ∃ s, SgOk P false 0 (itN (n + 1) (z0 P)).1 (itN (n + 1) (z0 P)).2.1 (itN (n + 1) (z0 P)).2.2 s ∧ s ≠ .bg ∧ (∀ tk, s ≠ .u6 tk) ∧ s ≠ .e7 := by
  rw [it_succ]
  obtain ⟨h, _⟩ := first_z P
  obtain ⟨s, g, gb, _, _, _, gu⟩ := on_many (z := nx3 (z0 P)) hp (.inl rfl) h (by simp) n
  obtain ⟨g1, g2⟩ := gu rfl (by simp) (by simp)
  exact ⟨s, g, gb, g1, g2⟩
theorem kill_1 {t : TxS} (h : t.life ≠ 1) (c : Int) : (killT t c).2 = 1 := by unfold killT; rw [if_neg h]
theorem undo_past {P : List OpZ} (hp : PlOk P) (n : Nat) (h : (itN n (z0 P)).2.2.fin ≠ 0 ∨ (itN n (z0 P)).2.1.life = 2) (c : Int) : (killT (itN n (z0 P)).2.1 c).2 = 1 := by
  cases n with
  | zero => rfl
  | succ n =>
    obtain ⟨s, g, gb, gu, ge⟩ := on_run hp n
    refine kill_1 ?_ c
    rcases h with h | h
    · rcases fin_is h g with e | e
      · subst e; rw [g.2.life]; decide
      · exact absurd e ge
    · rw [h]; decide
theorem undo_now {P : List OpZ} (hp : PlOk P) (n : Nat) (h1 : (itN (n + 1) (z0 P)).2.2.fin = 0) (h2 : (itN (n + 1) (z0 P)).2.1.life ≠ 2) (c : Int) :
    (itN (n + 1) (z0 P)).2.2.i ≠ 0 ∧ ∀ m, 2 ≤ m → Gone (uN (itN (n + 1) (z0 P)).1 (itN (n + 1) (z0 P)).2.1 c m).1 (uN (itN (n + 1) (z0 P)).1 (itN (n + 1) (z0 P)).2.1 c m).2.1 (uN (itN (n + 1) (z0 P)).1 (itN (n + 1) (z0 P)).2.1 c m).2.2 c 0 := by
  obtain ⟨s, g, gb, gu, ge⟩ := on_run hp n
  generalize itN (n + 1) (z0 P) = z at *
  cases s with
  | bg => exact absurd rfl gb
  | id => exact ⟨by have := g.2.2; omega, fun m hm => kill_gone (tk := false) (pz := false) g.1 g.2.1.life g.2.1.stamp g.2.1.took g.2.1.phased m hm⟩
  | lk p => exact ⟨by have := g.2.2.1; omega, fun m hm => kill_gone (tk := false) (pz := false) g.1 g.2.1.life g.2.1.stamp g.2.1.took g.2.1.phased m hm⟩
  | c3 => exact ⟨by have := g.2.2; omega, fun m hm => kill_gone (tk := false) (pz := false) g.1 g.2.1.life g.2.1.stamp g.2.1.took g.2.1.phased m hm⟩
  | c4 => exact ⟨by have := g.2.2.1; omega, fun m hm => kill_gone (tk := false) (pz := true) g.1 g.2.1.life g.2.1.stamp g.2.1.took g.2.1.phased m hm⟩
  | c2 tk => exact ⟨by have := g.2.2.1; omega, fun m hm => kill_gone (tk := tk) (pz := true) g.1 g.2.1.life g.2.1.stamp g.2.1.took g.2.1.phased m hm⟩
  | d5 k => exact absurd g.2.1.life h2
  | d6 => exact absurd g.2.1.life h2
  | d7 => exact absurd g.2.1.life h2
  | e5 => exact absurd g.2.life h2
  | u6 tk => exact absurd rfl (gu tk)
  | e7 => exact absurd rfl ge
/-- the end of an attempt that is alone -/
structure AlEnd (z : St3) : Prop where
  fin : z.2.2.fin = 1
  life : z.2.1.life = 2
  wd : ∀ e ∈ z.2.1.W, isD e.1
  wf : ∀ e ∈ z.2.1.W, (Lit.int .i64 e.2).wf = true
  wn : (z.2.1.W.map Prod.fst).Nodup
  mz : MZ z.1 (mdz z.2.1.W) 0 0 z.2.1.W
  made : z.2.1.made = mdz z.2.1.W
  stamp : z.2.1.stamp = mdz z.2.1.W
theorem alone_end {P : List OpZ} (hp : PlOk P) (n : Nat) (hn : 101 ≤ n) : AlEnd (itN n (z0 P)) := by
  obtain ⟨n, rfl⟩ : ∃ m, n = m + 1 := ⟨n - 1, by omega⟩
  obtain ⟨s, g, gb, gu, ge⟩ := on_run hp n
  have hf : (itN (n + 1) (z0 P)).2.2.fin ≠ 0 := by
    rw [it_succ]
    exact on_end (z := nx3 (z0 P)) hp (.inl rfl) (first_z P).1 (by simp) n (by omega)
  rcases fin_is hf g with e | e
  · subst e
    exact ⟨g.2.fin, g.2.life, g.1.wd, g.1.wf, g.1.wn, g.1.mz, g.2.made, g.2.stamp⟩
  · exact absurd e ge
/-- NorecWatch: the attempt, the lock's word watched, many picks on -/
def zW (P : List OpZ) : St3 := ((nx3 (z0 P)).1, watchT (nx3 (z0 P)).2.1 lkA 0, (nx3 (z0 P)).2.2)
theorem zW_TI (P : List OpZ) : TI (zW P).2.1 := by
  obtain ⟨_, hv, hj, ht, _⟩ := first_z P
  unfold zW
  generalize nx3 (z0 P) = z at *
  exact TI.watch ht lkA 0 hv (.inr trivial) (.inl hj)
theorem zW_RI {P : List OpZ} (h : PlOk P) : RI (zW P).2.2 := by
  have := first_RI h
  unfold zW
  exact this
theorem zW_len (P : List OpZ) : (zW P).1.L.length = 34 := by
  have := (first_z P).2.2.2.2
  unfold zW
  exact this
theorem zW_id (P : List OpZ) : SgOk P true 0 (zW P).1 (zW P).2.1 (zW P).2.2 .id := by
  obtain ⟨h, hv, _⟩ := first_z P
  unfold zW
  generalize nx3 (z0 P) = z at *
  have e : watchT z.2.1 lkA 0 = { z.2.1 with V := [(9, 0)] } := by
    unfold watchT
    rw [if_pos h.2.1.life, hv, lkA_val]
    rfl
  rw [e]
  exact ⟨⟨h.1.hP, rfl, h.1.th, h.1.top, h.1.wd, h.1.wf, h.1.wn, h.1.wl, h.1.rl, h.1.i0, h.1.i2, h.1.mz⟩, ⟨h.2.1.life, h.2.1.job, rfl, h.2.1.made, h.2.1.stamp, h.2.1.took, h.2.1.phased, h.2.1.busy, h.2.1.fin⟩, h.2.2⟩
theorem zW_any {P : List OpZ} (hp : PlOk P) (n : Nat) : ∃ s, SgOk P true 0 (itN n (zW P)).1 (itN n (zW P)).2.1 (itN n (zW P)).2.2 s ∧ s ≠ .bg ∧ (∀ tk, s ≠ .u6 tk) ∧ s ≠ .e7 := by
  obtain ⟨s, g, gb, _, _, _, gu⟩ := on_many (z := zW P) hp (.inl rfl) (zW_id P) (by simp) n
  obtain ⟨g1, g2⟩ := gu rfl (by simp) (by simp)
  exact ⟨s, g, gb, g1, g2⟩
/-- the lock's word turns -/
def zT (z : St3) : St3 := (z.1.storeI lkA 1, z.2.1, z.2.2)
theorem turned {P : List OpZ} {z : St3} {s : Sg} (h : SgOk P true 0 z.1 z.2.1 z.2.2 s) (hb : s ≠ .bg) : SgOk P true 1 (zT z).1 (zT z).2.1 (zT z).2.2 s := by
  have up : ∀ {sq ph : Int} {W : List (Int × Int)}, Bs P true 0 z.1 z.2.1 z.2.2 sq ph W → Bs P true 1 (zT z).1 (zT z).2.1 (zT z).2.2 sq ph W := fun b =>
    b.up rfl rfl rfl rfl b.rl rfl (Int.le_refl _) b.i2 (by show MZ (z.1.storeI lkA 1) _ _ _ _; rw [lkA_val]; exact b.mz.lock 1)
  cases s with
  | bg => exact absurd rfl hb
  | id => exact ⟨up h.1, h.2⟩
  | lk p => exact ⟨up h.1, h.2⟩
  | c3 => exact ⟨up h.1, h.2⟩
  | c4 => exact ⟨up h.1, h.2⟩
  | c2 tk => exact ⟨up h.1, h.2⟩
  | d5 k => exact ⟨up h.1, h.2⟩
  | d6 => exact ⟨up h.1, h.2⟩
  | d7 => exact ⟨up h.1, h.2⟩
  | e5 => exact ⟨up h.1, h.2⟩
  | u6 tk => exact ⟨up h.1, h.2⟩
  | e7 => exact ⟨up h.1, h.2⟩
theorem valW_at : ∀ (W : List (Int × Int)), (W.map Prod.fst).Nodup → ∀ e ∈ W, valW W e.1 = e.2 := by
  intro W
  suffices ∀ (W : List (Int × Int)) (z : Int), (W.map Prod.fst).Nodup → (∀ e ∈ W, W.foldl (fun z x => if x.1 = e.1 then x.2 else z) z = e.2) ∧ ∀ p, (∀ e ∈ W, e.1 ≠ p) → W.foldl (fun z x => if x.1 = p then x.2 else z) z = z from fun h => (this W 0 h).1
  intro W
  induction W with
  | nil => exact fun z _ => ⟨fun e h => absurd h (by simp), fun p _ => rfl⟩
  | cons a W ih =>
    intro z h
    rw [List.map_cons, List.nodup_cons] at h
    refine ⟨fun e he => ?_, fun p hp => ?_⟩
    · rw [List.foldl_cons]
      rcases List.mem_cons.1 he with rfl | he
      · rw [if_pos rfl]
        exact (ih _ h.2).2 _ (fun x hx e2 => h.1 (by rw [← e2]; exact List.mem_map_of_mem hx))
      · exact (ih _ h.2).1 e he
    · rw [List.foldl_cons, if_neg (hp a (by simp))]
      exact (ih _ h.2).2 p (fun e he => hp e (by simp [he]))
theorem memF_D (sq ph lw : Int) (W : List (Int × Int)) (p : Int) (h : isD p) : memF sq ph lw W p = valW W p := by
  have : 26 ≤ p := by rcases h with e | e | e | e <;> omega
  unfold memF
  rw [if_neg (by omega), if_neg (by omega), if_neg (by omega)]
/-- NorecWatch at the end: who was decided has written, nobody else has -/
theorem watch_end {P : List OpZ} (hp : PlOk P) (n m : Nat) (hm : 100 ≤ m) :
    ((itN n (zW P)).2.1.life = 2 → (itN m (zT (itN n (zW P)))).2.2.fin = 1 ∧ ∀ e ∈ (itN m (zT (itN n (zW P)))).2.1.W, (itN m (zT (itN n (zW P)))).1.atP e.1 = e.2) ∧
    ((itN n (zW P)).2.1.life ≠ 2 → (itN m (zT (itN n (zW P)))).2.2.fin = 2 ∧ (itN m (zT (itN n (zW P)))).2.1.cause = 3 ∧ ∀ e ∈ (itN m (zT (itN n (zW P)))).2.1.W, (itN m (zT (itN n (zW P)))).1.atP e.1 = 0) := by
  obtain ⟨s, g, gb, gu, ge⟩ := zW_any hp n
  have hd := dec_life g gb
  have ht := turned g gb
  obtain ⟨s', k, kb, _, kd, kn, _⟩ := on_many (z := zT (itN n (zW P))) hp (.inr rfl) ht gb m
  have hf := on_end (z := zT (itN n (zW P))) hp (.inr rfl) ht gb m hm
  refine ⟨fun h => ?_, fun h => ?_⟩
  · have hs := kd (hd.1 h)
    rcases fin_is hf k with e | e
    · subst e
      exact ⟨k.2.fin, fun e he => by rw [k.1.mz.at_, memF_D _ _ _ _ _ (k.1.wd e he)]; exact valW_at _ k.1.wn e he⟩
    · subst e; exact hs.elim
  · have hs := kn (by decide) (fun y => h (hd.2 y))
    rcases fin_is hf k with e | e
    · subst e; exact absurd trivial hs
    · subst e
      exact ⟨k.2.1.fin, k.2.2, fun e he => by rw [k.1.mz.at_, memF_D _ _ _ _ _ (k.1.wd e he)]; rfl⟩
end Go.Proofs.Ytfmamedkiaimpaa
