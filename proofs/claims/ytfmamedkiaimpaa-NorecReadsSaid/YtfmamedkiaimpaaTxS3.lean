/- One attempt alone beside a memory: the stages of its run (plain). -/
import Derived.Test.YtfmamedkiaimpaaTxTold
namespace Go.Proofs.Ytfmamedkiaimpaa
open Go.RowKit
theorem dA_val : dA 0 = 26 ∧ dA 1 = 28 ∧ dA 2 = 30 ∧ dA 3 = 32 := ⟨by kernel_rfl, by kernel_rfl, by kernel_rfl, by kernel_rfl⟩
theorem lkA_val : lkA = 9 := by kernel_rfl
theorem ph_val (t : TxS) (h : t.th = 1) : phA t = 13 := by unfold phA; rw [h]; kernel_rfl
def isD (p : Int) : Prop := p = 26 ∨ p = 28 ∨ p = 30 ∨ p = 32
theorem dA_is (k : Int) (h0 : 0 ≤ k) (h4 : k < 4) : isD (dA k) := by
  obtain ⟨a, b, c, d⟩ := dA_val
  rcases (show k = 0 ∨ k = 1 ∨ k = 2 ∨ k = 3 by omega) with rfl | rfl | rfl | rfl
  · exact .inl a
  · exact .inr (.inl b)
  · exact .inr (.inr (.inl c))
  · exact .inr (.inr (.inr d))
theorem hash_ok (p : Int) (h : isD p) : ¬ hashV ⟨3, 1, 3, 0, 4⟩ p < 0 := by
  rcases h with rfl | rfl | rfl | rfl
  · exact of_decide_eq_false (by kernel_rfl)
  · exact of_decide_eq_false (by kernel_rfl)
  · exact of_decide_eq_false (by kernel_rfl)
  · exact of_decide_eq_false (by kernel_rfl)
/-- what is written at a place -/
def valW (W : List (Int × Int)) (p : Int) : Int := W.foldl (fun z e => if e.1 = p then e.2 else z) 0
theorem valW_snoc (W : List (Int × Int)) (e : Int × Int) (p : Int) : valW (W ++ [e]) p = if e.1 = p then e.2 else valW W p := by simp [valW, List.foldl_append]
theorem valW_nil (p : Int) : valW [] p = 0 := rfl
theorem take_snoc (W : List (Int × Int)) (k : Nat) (h : k < W.length) : W.take (k + 1) = W.take k ++ [W.getD k (0, 0)] := by
  rw [List.take_succ_eq_append_getElem h, getD_at _ _ _ h]
def memF (sq ph lw : Int) (W : List (Int × Int)) (p : Int) : Int := if p = 1 then sq else if p = 13 then ph else if p = 9 then lw else valW W p
structure MZ (M : MemS) (sq ph lw : Int) (W : List (Int × Int)) : Prop where
  len : M.L.length = 34
  at_ : ∀ p, M.atP p = memF sq ph lw W p
theorem atP_L {M M' : MemS} (h : M'.L = M.L) (p : Int) : M'.atP p = M.atP p := by
  unfold MemS.atP MemS.inR MemS.word; rw [h]
theorem set_atP (M : MemS) (q x p : Int) (h0 : 0 ≤ q) (h1 : q < (M.L.length : Int)) (M' : MemS) (hM : M'.L = M.L.set q.toNat x) : M'.atP p = if p = q then x else M.atP p := by
  have hl : M'.L.length = M.L.length := by rw [hM]; exact List.length_set
  unfold MemS.atP MemS.inR MemS.word
  rw [hl, hM]
  by_cases e : p = q
  · subst e
    rw [if_pos rfl, if_pos (by simp [h0, h1])]
    rw [getD_at _ _ _ (by simp; omega)]
    simp
  · rw [if_neg e]
    by_cases hp : 0 ≤ p ∧ p < (M.L.length : Int)
    · rw [if_pos (by simp [hp.1, hp.2]), if_pos (by simp [hp.1, hp.2])]
      rw [getD_at _ _ _ (by simp; omega), getD_at _ _ _ (by omega)]
      rw [List.getElem_set_ne (by omega)]
    · rw [if_neg (by simp; omega), if_neg (by simp; omega)]
theorem store_atP (M : MemS) (q x p : Int) (h0 : 0 ≤ q) (h1 : q < (M.L.length : Int)) : (M.storeI q x).atP p = if p = q then x else M.atP p := by
  refine set_atP M q x p h0 h1 _ ?_
  unfold MemS.storeI
  rw [if_pos (by simp [MemS.inR, h0, h1])]
  rfl
section
variable {M : MemS} {sq ph lw : Int} {W : List (Int × Int)}
theorem MZ.load (h : MZ M sq ph lw W) (p : Int) : MZ (M.loadI p) sq ph lw W := ⟨by rw [loadI_L]; exact h.len, fun q => by rw [atP_L (loadI_L M p)]; exact h.at_ q⟩
theorem MZ.seq (h : MZ M sq ph lw W) (x : Int) : MZ (M.storeI 1 x) x ph lw W := by
  refine ⟨by rw [storeI_len]; exact h.len, fun p => ?_⟩
  rw [store_atP M 1 x p (by decide) (by rw [h.len]; decide), h.at_]
  unfold memF
  by_cases e : p = 1
  · rw [if_pos e, if_pos e]
  · rw [if_neg e, if_neg e, if_neg e]
theorem MZ.phase (h : MZ M sq ph lw W) (x : Int) : MZ (M.storeI 13 x) sq x lw W := by
  refine ⟨by rw [storeI_len]; exact h.len, fun p => ?_⟩
  rw [store_atP M 13 x p (by decide) (by rw [h.len]; decide), h.at_]
  unfold memF
  by_cases e : p = 13
  · subst e; simp
  · rw [if_neg e, if_neg e, if_neg e]
theorem MZ.lock (h : MZ M sq ph lw W) (x : Int) : MZ (M.storeI 9 x) sq ph x W := by
  refine ⟨by rw [storeI_len]; exact h.len, fun p => ?_⟩
  rw [store_atP M 9 x p (by decide) (by rw [h.len]; decide), h.at_]
  unfold memF
  by_cases e : p = 9
  · subst e; simp
  · rw [if_neg e, if_neg e, if_neg e]
theorem MZ.data (h : MZ M sq ph lw W) (q x : Int) (hq : isD q) : MZ (M.storeI q x) sq ph lw (W ++ [(q, x)]) := by
  refine ⟨by rw [storeI_len]; exact h.len, fun p => ?_⟩
  have hb : 26 ≤ q ∧ q ≤ 32 := by rcases hq with e | e | e | e <;> omega
  rw [store_atP M q x p (by omega) (by rw [h.len]; omega), h.at_]
  unfold memF
  rw [valW_snoc]
  dsimp only
  by_cases e : p = q
  · rw [if_pos e, if_neg (by omega), if_neg (by omega), if_neg (by omega), if_pos e.symm]
  · rw [if_neg e]
    simp only [if_neg (fun z : q = p => e z.symm)]
theorem MZ.swap (h : MZ M sq ph lw W) (x : Int) : MZ (M.swapI 1 sq x) x ph lw W ∧ M.swapOk 1 sq = true := by
  have h1 : M.inR 1 = true := by unfold MemS.inR; rw [h.len]; decide
  have h2 : M.word 1 = sq := by
    have := h.at_ 1
    unfold MemS.atP memF at this
    rw [if_pos h1, if_pos rfl] at this
    exact this
  refine ⟨⟨by rw [swapI_len]; exact h.len, fun p => ?_⟩, by unfold MemS.swapOk; rw [h1]; simpa using h2⟩
  have := set_atP M 1 x p (by decide) (by rw [h.len]; decide) (M.swapI 1 sq x) (by
    unfold MemS.swapI
    rw [if_pos h1]
    unfold MemS.swap
    dsimp only
    rw [if_pos (by simpa using h2)])
  rw [this, h.at_]
  unfold memF
  by_cases e : p = 1
  · rw [if_pos e, if_pos e]
  · rw [if_neg e, if_neg e, if_neg e]
theorem MZ.new : MZ (M0 34) 0 0 0 [] := by
  refine ⟨M0_len 34, fun p => ?_⟩
  have : (M0 34).atP p = 0 := by
    unfold MemS.atP MemS.word
    split
    · show (List.replicate 34 (0 : Int)).getD p.toNat 0 = 0
      rw [List.getD_eq_getElem?_getD, List.getElem?_replicate]
      split <;> rfl
    · rfl
  rw [this]
  unfold memF valW
  simp
theorem MZ.s1 (h : MZ M sq ph lw W) : M.atP 1 = sq := by rw [h.at_]; rfl
theorem MZ.s9 (h : MZ M sq ph lw W) : M.atP 9 = lw := by rw [h.at_]; rfl
end
end Go.Proofs.Ytfmamedkiaimpaa
namespace Go.Proofs.Ytfmamedkiaimpaa
open Go.RowKit
/-- what is watched: nothing, or the lock's word at 0 -/
def vvW (wt : Bool) : List (Int × Int) := if wt then [(9, 0)] else []
def b2 (b : Bool) (x : Int) : Int := if b then x else 0
def mdz (W : List (Int × Int)) : Int := if W = [] then 0 else 2
structure PlOk (P : List OpZ) : Prop where
  len : P.length ≤ 8
  at_ : ∀ k, k < P.length → 0 ≤ (P.getD k op0).2.1 ∧ (P.getD k op0).2.1 < 4
  wf : ∀ k, k < P.length → (Lit.int .i64 (P.getD k op0).2.2).wf = true
structure Bs (P : List OpZ) (wt : Bool) (lw : Int) (M : MemS) (t : TxS) (u : RunM) (sq ph : Int) (W : List (Int × Int)) : Prop where
  hP : u.P = P
  hV : t.V = vvW wt
  th : t.th = 1
  top : t.top = 1000
  wd : ∀ e ∈ t.W, isD e.1
  wf : ∀ e ∈ t.W, (Lit.int .i64 e.2).wf = true
  wn : (t.W.map Prod.fst).Nodup
  wl : (t.W.length : Int) ≤ u.i
  rl : (t.R.length : Int) ≤ u.i
  i0 : 0 ≤ u.i
  i2 : u.i ≤ (P.length : Int) + 1
  mz : MZ M sq ph lw W
structure Fl (t : TxS) (u : RunM) (life job part made stamp : Int) (took phased busy : Bool) (fin : Int) : Prop where
  life : t.life = life
  job : t.job = job
  part : t.part = part
  made : t.made = made
  stamp : t.stamp = stamp
  took : t.took = took
  phased : t.phased = phased
  busy : u.busy = busy
  fin : u.fin = fin
inductive Sg where
  | bg
  | id
  | lk (p : Nat)
  | c3
  | c4
  | c2 (tk : Bool)
  | d5 (k : Nat)
  | d6
  | d7
  | e5
  | u6 (tk : Bool)
  | e7
def SgOk (P : List OpZ) (wt : Bool) (lw : Int) (M : MemS) (t : TxS) (u : RunM) : Sg → Prop
  | .bg => Bs P false lw M t u 0 0 [] ∧ Fl t u 1 1 0 0 t.stamp false false true 0 ∧ u.i = 0
  | .id => Bs P wt lw M t u 0 0 [] ∧ Fl t u 1 0 t.part 0 0 false false false 0 ∧ 1 ≤ u.i
  | .lk p => Bs P wt lw M t u 0 0 [] ∧ Fl t u 1 2 p 0 0 false false true 0 ∧ 1 ≤ u.i ∧ u.i ≤ (P.length : Int) ∧ p ≤ 2 ∧ (p = 2 → t.i = 0 ∧ wt = true)
  | .c3 => Bs P wt lw M t u 0 0 [] ∧ Fl t u 1 4 3 0 0 false false true 0 ∧ u.i = (P.length : Int) + 1
  | .c4 => Bs P wt lw M t u 0 2 [] ∧ Fl t u 1 4 4 0 0 false true true 0 ∧ u.i = (P.length : Int) + 1 ∧ t.W ≠ []
  | .c2 tk => Bs P wt lw M t u (b2 tk 1) 2 [] ∧ Fl t u 1 4 2 (b2 tk 2) 0 tk true true 0 ∧ u.i = (P.length : Int) + 1 ∧ (tk = true ↔ t.W ≠ []) ∧ t.i = 0 ∧ wt = true
  | .d5 k => Bs P wt lw M t u 1 2 (t.W.take k) ∧ Fl t u 2 4 5 2 0 true true true 0 ∧ u.i = (P.length : Int) + 1 ∧ t.i = (k : Int) ∧ k < t.W.length
  | .d6 => Bs P wt lw M t u 1 2 t.W ∧ Fl t u 2 4 6 2 0 true true true 0 ∧ u.i = (P.length : Int) + 1 ∧ t.W ≠ []
  | .d7 => Bs P wt lw M t u (mdz t.W) 2 t.W ∧ Fl t u 2 4 7 (mdz t.W) 0 false true true 0 ∧ u.i = (P.length : Int) + 1
  | .e5 => Bs P wt lw M t u (mdz t.W) 0 t.W ∧ Fl t u 2 0 7 (mdz t.W) (mdz t.W) false false false 1
  | .u6 tk => Bs P wt lw M t u (b2 tk 1) 2 [] ∧ Fl t u 3 5 0 0 0 tk true true 0 ∧ t.cause = 3
  | .e7 => Bs P wt lw M t u 0 0 [] ∧ Fl t u 3 0 0 0 0 false false true 2 ∧ t.cause = 3
/-- how far it is -/
def mu (P : List OpZ) (t : TxS) (u : RunM) : Sg → Int
  | .bg => 99
  | .id => 3 * ((P.length : Int) + 1 - u.i) + 30
  | .lk p => 3 * ((P.length : Int) + 1 - u.i) + 30 - p
  | .c3 => 30
  | .c4 => 25
  | .c2 _ => 24
  | .d5 k => 12 + ((t.W.length : Int) - k)
  | .d6 => 11
  | .d7 => 10
  | .e5 => 0
  | .u6 tk => 8 + b2 tk 1
  | .e7 => 0
def Sg.dec : Sg → Prop
  | .d5 _ | .d6 | .d7 | .e5 => True
  | _ => False
section
variable {P : List OpZ} {wt : Bool} {lw sq ph : Int} {M M' : MemS} {t t' : TxS} {u u' : RunM} {W : List (Int × Int)}
theorem Bs.up (h : Bs P wt lw M t u sq ph W) {sq' ph' lw' : Int} {W' : List (Int × Int)} (hV : t'.V = t.V) (hth : t'.th = t.th) (htop : t'.top = t.top) (hW : t'.W = t.W) (hR : (t'.R.length : Int) ≤ u'.i) (hP : u'.P = u.P) (hi : u.i ≤ u'.i) (hi2 : u'.i ≤ (P.length : Int) + 1) (mz : MZ M' sq' ph' lw' W') : Bs P wt lw' M' t' u' sq' ph' W' :=
  ⟨hP.trans h.hP, hV.trans h.hV, hth.trans h.th, htop.trans h.top, by rw [hW]; exact h.wd, by rw [hW]; exact h.wf, by rw [hW]; exact h.wn, by rw [hW]; exact Int.le_trans h.wl hi, hR, Int.le_trans h.i0 hi, hi2, mz⟩
theorem stepU_c0 (h : stepX M t = (M', (t', 0))) : stepU M t u = (M', t', u) := by unfold stepU; rw [h]; rfl
theorem stepU_c1 (h : stepX M t = (M', (t', 1))) : stepU M t u = (M', t', doneU u t'.value) := by unfold stepU; rw [h]; rfl
theorem stepU_c2 (h : stepX M t = (M', (t', 2))) : stepU M t u = (M', t', { u with fin := 2 }) := by unfold stepU; rw [h]; rfl
theorem stepX_bg (hj : t.job = 1) (hp : t.part = 0) : stepX M t = (M.loadI 1, if oddB (M.atP 1) then (t, 0) else (doneT { t with stamp := M.atP 1 }, 1)) := by
  unfold stepX; rw [if_neg (by rw [hj]; decide), if_neg (by rw [hj]; decide), if_neg (by rw [hp]; decide), if_pos hj]
theorem stepX_look (hj : t.job = 2) (hp : t.part < 8) : stepX M t = lookT M t := by
  unfold stepX; rw [if_neg (by rw [hj]; decide), if_neg (by rw [hj]; decide), if_neg (by omega), if_neg (by rw [hj]; decide), if_pos hj]
theorem stepX_commit (hj : t.job = 4) (hp : t.part < 8) : stepX M t = commitT M t := by
  unfold stepX; rw [if_neg (by rw [hj]; decide), if_neg (by rw [hj]; decide), if_neg (by omega), if_neg (by rw [hj]; decide), if_neg (by rw [hj]; decide)]
theorem stepX_undo (hj : t.job = 5) : stepX M t = undoT M t := by
  unfold stepX; rw [if_neg (by rw [hj]; decide), if_pos hj]
theorem done_mid (x : Int) (h : u.i ≤ (u.P.length : Int)) : (doneU u x).i = u.i + 1 ∧ (doneU u x).busy = false ∧ (doneU u x).fin = u.fin ∧ (doneU u x).P = u.P := by
  unfold doneU
  rw [if_neg (by omega)]
  split <;> exact ⟨rfl, rfl, rfl, rfl⟩
theorem done_end (x : Int) (h : (u.P.length : Int) < u.i) : doneU u x = { u with busy := false, fin := 1 } := by unfold doneU; rw [if_pos h]
theorem putL_len (l : List (Int × Int)) (k x : Int) : ((putL 32 l k x).length : Int) ≤ l.length + 1 := by
  unfold putL
  split
  · omega
  · split
    · simp
    · omega
theorem odd0 : oddB 0 = false := by kernel_rfl
theorem vv_len (wt : Bool) : ((vvW wt).length : Int) = if wt then 1 else 0 := by cases wt <;> rfl
theorem wat_true (h : t.V = vvW true) (hm : M.atP 9 = lw) : watchesT M t 0 = (M.loadI 9, ({ t with i := 1 }, lw == 0)) := by
  unfold watchesT
  rw [show t.V.getD 0 (0, 0) = (9, 0) by rw [h]; rfl]
  show (M.loadI 9, ({ t with i := 1 }, M.atP 9 == 0)) = _
  rw [hm]
theorem on_bg (h : SgOk P false lw M t u .bg) (hw : wt = false) : SgOk P wt lw (stepU M t u).1 (stepU M t u).2.1 (stepU M t u).2.2 .id := by
  subst hw
  obtain ⟨hb, hf, hi⟩ := h
  have e : stepX M t = (M.loadI 1, (doneT { t with stamp := M.atP 1 }, 1)) := by
    rw [stepX_bg hf.job hf.part, hb.mz.s1, odd0]; rfl
  rw [stepU_c1 e]
  obtain ⟨d1, d2, d3, d4⟩ := done_mid (u := u) (doneT { t with stamp := M.atP 1 }).value (by rw [hi]; omega)
  have := hb.rl
  refine ⟨hb.up rfl rfl rfl rfl (by rw [d1]; show (t.R.length : Int) ≤ u.i + 1; omega) d4 (by rw [d1]; omega) (by rw [d1, hi]; omega) (hb.mz.load 1), ⟨hf.life, rfl, rfl, hf.made, hb.mz.s1, hf.took, hf.phased, d2, d3.trans hf.fin⟩, by rw [d1, hi]; decide⟩
theorem on_lk0 (h : SgOk P wt lw M t u (.lk 0)) : SgOk P wt lw (stepU M t u).1 (stepU M t u).2.1 (stepU M t u).2.2 (.lk 1) ∧ (stepU M t u).2.2 = u := by
  obtain ⟨hb, hf, h1, h2, h3, h4⟩ := h
  have hp0 : t.part = 0 := hf.part
  have e : stepX M t = (M.loadI t.pl, ({ t with val := M.atP t.pl, part := 1 }, 0)) := by
    rw [stepX_look hf.job (by rw [hp0]; decide)]; unfold lookT; rw [if_pos hp0]
  rw [stepU_c0 e]
  exact ⟨⟨hb.up rfl rfl rfl rfl hb.rl rfl (Int.le_refl _) hb.i2 (hb.mz.load _), ⟨hf.life, hf.job, rfl, hf.made, hf.stamp, hf.took, hf.phased, hf.busy, hf.fin⟩, h1, h2, by decide, fun z => absurd z (by decide)⟩, rfl⟩
/-- a read is done -/
theorem read_done (hb : Bs P wt lw M t u 0 0 []) (h1 : 1 ≤ u.i) (h2 : u.i ≤ (P.length : Int)) (hl : t.life = 1) (hm : t.made = 0) (hs : t.stamp = 0) (ht : t.took = false) (hp : t.phased = false) (hf : u.fin = 0) (hmz : MZ M' 0 0 lw []) (hV : t'.V = t.V) (hth : t'.th = t.th) (htop : t'.top = t.top) (hW : t'.W = t.W) (hR : (t'.R.length : Int) ≤ t.R.length + 1)
    (hl' : t'.life = t.life) (hj : t'.job = 0) (hm' : t'.made = t.made) (hs' : t'.stamp = t.stamp) (ht' : t'.took = t.took) (hp' : t'.phased = t.phased) (x : Int) : SgOk P wt lw M' t' (doneU u x) .id ∧ (doneU u x).i = u.i + 1 := by
  obtain ⟨d1, d2, d3, d4⟩ := done_mid (u := u) x (by rw [hb.hP]; exact h2)
  have := hb.rl
  exact ⟨⟨hb.up hV hth htop hW (by rw [d1]; omega) d4 (by rw [d1]; omega) (by rw [d1]; omega) hmz, ⟨hl'.trans hl, hj, rfl, hm'.trans hm, hs'.trans hs, ht'.trans ht, hp'.trans hp, d2, d3.trans hf⟩, by rw [d1]; omega⟩, d1⟩
theorem on_lk1 (h : SgOk P wt lw M t u (.lk 1)) : (SgOk P wt lw (stepU M t u).1 (stepU M t u).2.1 (stepU M t u).2.2 .id ∧ (stepU M t u).2.2.i = u.i + 1 ∧ wt = false) ∨ (SgOk P wt lw (stepU M t u).1 (stepU M t u).2.1 (stepU M t u).2.2 (.lk 2) ∧ (stepU M t u).2.2 = u ∧ wt = true) := by
  obtain ⟨hb, hf, h1, h2, h3, h4⟩ := h
  have hp1 : t.part = 1 := hf.part
  have e0 : stepX M t = (M.loadI 1, lookEnd { t with part := 2, i := 0 }) := by
    rw [stepX_look hf.job (by rw [hp1]; decide)]; unfold lookT; rw [if_neg (by rw [hp1]; decide), if_pos hp1, hb.mz.s1, if_pos hf.stamp.symm]
  cases wt with
  | false =>
    left
    have e : stepX M t = (M.loadI 1, (doneT { t with part := 2, i := 0, value := t.val, R := putL 32 t.R t.pl t.val }, 1)) := by
      rw [e0]; unfold lookEnd; rw [if_neg (by show ¬ (0 : Int) < t.V.length; rw [hb.hV, vv_len]; simp)]
    rw [stepU_c1 e]
    have := read_done (t' := doneT { t with part := 2, i := 0, value := t.val, R := putL 32 t.R t.pl t.val }) hb h1 h2 hf.life hf.made hf.stamp hf.took hf.phased hf.fin (hb.mz.load 1) rfl rfl rfl rfl (putL_len _ _ _) rfl rfl rfl rfl rfl rfl t.val
    exact ⟨this.1, this.2, rfl⟩
  | true =>
    right
    have e : stepX M t = (M.loadI 1, ({ t with part := 2, i := 0 }, 0)) := by
      rw [e0]; unfold lookEnd; rw [if_pos (by show (0 : Int) < t.V.length; rw [hb.hV, vv_len]; simp)]
    rw [stepU_c0 e]
    exact ⟨⟨hb.up rfl rfl rfl rfl hb.rl rfl (Int.le_refl _) hb.i2 (hb.mz.load 1), ⟨hf.life, hf.job, rfl, hf.made, hf.stamp, hf.took, hf.phased, hf.busy, hf.fin⟩, h1, h2, by decide, fun _ => ⟨rfl, rfl⟩⟩, rfl, rfl⟩
theorem on_lk2 (h : SgOk P wt lw M t u (.lk 2)) : (lw = 0 ∧ SgOk P wt lw (stepU M t u).1 (stepU M t u).2.1 (stepU M t u).2.2 .id ∧ (stepU M t u).2.2.i = u.i + 1) ∨ (lw ≠ 0 ∧ SgOk P wt lw (stepU M t u).1 (stepU M t u).2.1 (stepU M t u).2.2 .e7) := by
  obtain ⟨hb, hf, h1, h2, h3, h4⟩ := h
  obtain ⟨hi, hw⟩ := h4 rfl
  subst hw
  have hp2 : t.part = 2 := hf.part
  have hW := wat_true (M := M) (t := t) (lw := lw) hb.hV hb.mz.s9
  have e0 : stepX M t = (M.loadI 9, if (lw == 0) = true then lookEnd { t with i := 1 } else abortT { t with i := 1 } 3) := by
    rw [stepX_look hf.job (by rw [hp2]; decide)]; unfold lookT; rw [if_neg (by rw [hp2]; decide), if_neg (by rw [hp2]; decide), hi]
    show ((watchesT M t 0).1, if (watchesT M t 0).2.2 = true then lookEnd (watchesT M t 0).2.1 else abortT (watchesT M t 0).2.1 3) = _
    rw [hW]
  by_cases hl : lw = 0
  · left
    have e : stepX M t = (M.loadI 9, (doneT { t with i := 1, value := t.val, R := putL 32 t.R t.pl t.val }, 1)) := by
      rw [e0, if_pos (by simpa using hl)]; unfold lookEnd; rw [if_neg (by show ¬ (1 : Int) < t.V.length; rw [hb.hV, vv_len]; simp)]
    rw [stepU_c1 e]
    have := read_done (t' := doneT { t with i := 1, value := t.val, R := putL 32 t.R t.pl t.val }) hb h1 h2 hf.life hf.made hf.stamp hf.took hf.phased hf.fin (hb.mz.load 9) rfl rfl rfl rfl (putL_len _ _ _) rfl rfl rfl rfl rfl rfl t.val
    exact ⟨hl, this.1, this.2⟩
  · right
    have e : stepX M t = (M.loadI 9, ({ t with i := 0, life := 3, cause := 3, made := 0, job := 0, part := 0 }, 2)) := by
      rw [e0, if_neg (by simpa using hl)]; unfold abortT undoneT; rw [if_neg (by show ¬ (t.took || t.phased) = true; rw [hf.took, hf.phased]; decide)]
    rw [stepU_c2 e]
    exact ⟨hl, hb.up rfl rfl rfl rfl hb.rl rfl (Int.le_refl _) hb.i2 (hb.mz.load 9), ⟨rfl, rfl, rfl, rfl, hf.stamp, hf.took, hf.phased, hf.busy, rfl⟩, rfl⟩
end
end Go.Proofs.Ytfmamedkiaimpaa
namespace Go.Proofs.Ytfmamedkiaimpaa
open Go.RowKit
section
variable {P : List OpZ} {wt : Bool} {lw sq ph : Int} {M M' : MemS} {t t' : TxS} {u u' : RunM} {W : List (Int × Int)}
theorem wr2 : wrap64 (0 + 2) = 2 := by kernel_rfl
theorem wr1 : wrap64 (0 + 1) = 1 := by kernel_rfl
theorem pos_ne {W : List (Int × Int)} : (0 : Int) < W.length ↔ W ≠ [] := by
  cases W with
  | nil => simp
  | cons a l => simp
/-- decided -/
theorem settled (hv : t.V = vvW false ∨ (t.V.length : Int) ≤ t.i) (h0 : 0 ≤ t.i) (hp : t.part = 2) : settleT t = if t.W ≠ [] then { t with life := 2, part := 5, i := 0 } else { t with life := 2, part := if t.took then 6 else 7, i := 0 } := by
  have hl : ¬ t.i < (t.V.length : Int) := by
    rcases hv with e | e
    · rw [e, vv_len]; simp; exact h0
    · omega
  unfold settleT
  rw [if_pos hp, if_neg hl]
  by_cases hw : (0 : Int) < t.W.length
  · rw [if_pos hw, if_pos (pos_ne.1 hw)]
  · rw [if_neg hw, if_neg (fun z => hw (pos_ne.2 z))]
theorem mdz_ne (h : t.W ≠ []) : mdz t.W = 2 := by unfold mdz; rw [if_neg h]
theorem on_c3 (h : SgOk P wt lw M t u .c3) : ∃ s, SgOk P wt lw (stepU M t u).1 (stepU M t u).2.1 (stepU M t u).2.2 s ∧ ((s = .c4) ∨ (s = .c2 false) ∨ (s = .d7 ∧ wt = false)) := by
  obtain ⟨hb, hf, h1⟩ := h
  have hp3 : t.part = 3 := hf.part
  have e0 : stepX M t = (M.storeI 13 2, if (0 : Int) < t.W.length then mayTakeT { t with phased := true, part := 4 } else (settleT { t with phased := true, part := 2, i := 0 }, 0)) := by
    rw [stepX_commit hf.job (by rw [hp3]; decide)]; unfold commitT; rw [if_pos hp3, ph_val t hb.th]
  by_cases hw : t.W = []
  · have hs : settleT { t with phased := true, part := 2, i := 0 } = if wt = true then { t with phased := true, part := 2, i := 0 } else { t with phased := true, life := 2, part := 7, i := 0 } := by
      cases wt with
      | false =>
        rw [settled (t := { t with phased := true, part := 2, i := 0 }) (.inl hb.hV) (Int.le_refl _) rfl, if_neg (by simp [hw])]
        show { t with phased := true, life := 2, part := if t.took then (6 : Int) else 7, i := 0 } = _
        rw [hf.took]; rfl
      | true =>
        unfold settleT
        rw [if_pos (show ({ t with phased := true, part := 2, i := 0 } : TxS).part = 2 from rfl), if_pos (by show (0 : Int) < t.V.length; rw [hb.hV, vv_len]; simp)]
        rfl
    have e : stepX M t = (M.storeI 13 2, (settleT { t with phased := true, part := 2, i := 0 }, 0)) := by rw [e0, if_neg (by rw [pos_ne]; simp [hw])]
    rw [stepU_c0 e, hs]
    cases wt with
    | false =>
      refine ⟨.d7, ⟨hb.up rfl rfl rfl rfl hb.rl rfl (Int.le_refl _) hb.i2 ?_, ⟨rfl, hf.job, rfl, ?_, hf.stamp, hf.took, rfl, hf.busy, hf.fin⟩, h1⟩, .inr (.inr ⟨rfl, rfl⟩)⟩
      · show MZ _ (mdz t.W) 2 lw t.W
        rw [hw]; exact hb.mz.phase 2
      · show t.made = mdz t.W
        rw [hw]; exact hf.made
    | true => exact ⟨.c2 false, ⟨hb.up rfl rfl rfl rfl hb.rl rfl (Int.le_refl _) hb.i2 (hb.mz.phase 2), ⟨hf.life, hf.job, rfl, hf.made, hf.stamp, hf.took, rfl, hf.busy, hf.fin⟩, h1, ⟨fun z => by simp at z, fun z => absurd hw z⟩, rfl, rfl⟩, .inr (.inl rfl)⟩
  · have e : stepX M t = (M.storeI 13 2, ({ t with phased := true, part := 4 }, 0)) := by
      rw [e0, if_pos (pos_ne.2 hw)]; unfold mayTakeT
      rw [if_neg (by show ¬ t.top < wrap64 (t.stamp + 2); rw [hb.top, hf.stamp, wr2]; decide)]
    rw [stepU_c0 e]
    exact ⟨.c4, ⟨hb.up rfl rfl rfl rfl hb.rl rfl (Int.le_refl _) hb.i2 (hb.mz.phase 2), ⟨hf.life, hf.job, rfl, hf.made, hf.stamp, hf.took, rfl, hf.busy, hf.fin⟩, h1, hw⟩, .inl rfl⟩
theorem on_c4 (h : SgOk P wt lw M t u .c4) : ∃ s, SgOk P wt lw (stepU M t u).1 (stepU M t u).2.1 (stepU M t u).2.2 s ∧ (s = .c2 true ∨ (s = .d5 0 ∧ wt = false)) := by
  obtain ⟨hb, hf, h1, hw⟩ := h
  have hp4 : t.part = 4 := hf.part
  obtain ⟨hm, ho⟩ := hb.mz.swap 1
  have e0 : stepX M t = (M.swapI 1 0 1, (settleT { t with took := true, made := 2, part := 2, i := 0 }, 0)) := by
    rw [stepX_commit hf.job (by rw [hp4]; decide)]; unfold commitT; rw [if_neg (by rw [hp4]; decide), if_pos hp4, hf.stamp, wr1, wr2, if_pos ho]
  rw [stepU_c0 e0]
  cases wt with
  | false =>
    rw [settled (t := { t with took := true, made := 2, part := 2, i := 0 }) (.inl hb.hV) (Int.le_refl _) rfl, if_pos hw]
    exact ⟨.d5 0, ⟨hb.up rfl rfl rfl rfl hb.rl rfl (Int.le_refl _) hb.i2 hm, ⟨rfl, hf.job, rfl, rfl, hf.stamp, rfl, hf.phased, hf.busy, hf.fin⟩, h1, rfl, by have := pos_ne.2 hw; show 0 < t.W.length; omega⟩, .inr ⟨rfl, rfl⟩⟩
  | true =>
    have hs : settleT { t with took := true, made := 2, part := 2, i := 0 } = { t with took := true, made := 2, part := 2, i := 0 } := by
      unfold settleT
      rw [if_pos (show ({ t with took := true, made := 2, part := 2, i := 0 } : TxS).part = 2 from rfl), if_pos (by show (0 : Int) < t.V.length; rw [hb.hV, vv_len]; simp)]
    rw [hs]
    exact ⟨.c2 true, ⟨hb.up rfl rfl rfl rfl hb.rl rfl (Int.le_refl _) hb.i2 hm, ⟨hf.life, hf.job, rfl, rfl, hf.stamp, rfl, hf.phased, hf.busy, hf.fin⟩, h1, ⟨fun _ => hw, fun _ => rfl⟩, rfl, rfl⟩, .inl rfl⟩
theorem on_c2 {tk : Bool} (h : SgOk P wt lw M t u (.c2 tk)) : ∃ s, SgOk P wt lw (stepU M t u).1 (stepU M t u).2.1 (stepU M t u).2.2 s ∧ ((lw = 0 ∧ (s = .d5 0 ∨ s = .d7)) ∨ (lw ≠ 0 ∧ s = .u6 tk)) := by
  obtain ⟨hb, hf, h1, htk, hi, hw⟩ := h
  subst hw
  have hp2 : t.part = 2 := hf.part
  have hW := wat_true (M := M) (t := t) (lw := lw) hb.hV hb.mz.s9
  have e0 : stepX M t = (M.loadI 9, if (lw == 0) = true then (settleT { t with i := 1 }, 0) else abortT { t with i := 1 } 3) := by
    rw [stepX_commit hf.job (by rw [hp2]; decide)]; unfold commitT; rw [if_neg (by rw [hp2]; decide), if_neg (by rw [hp2]; decide), if_pos hp2, hi]
    show ((watchesT M t 0).1, if (watchesT M t 0).2.2 = true then (settleT (watchesT M t 0).2.1, 0) else abortT (watchesT M t 0).2.1 3) = _
    rw [hW]
  by_cases hl : lw = 0
  · have hst := settled (t := { t with i := 1 }) (.inr (by show (t.V.length : Int) ≤ 1; rw [hb.hV, vv_len]; simp)) (by show (0 : Int) ≤ 1; decide) hp2
    have e : stepX M t = (M.loadI 9, (settleT { t with i := 1 }, 0)) := by rw [e0, if_pos (by simpa using hl)]
    rw [stepU_c0 e, hst]
    by_cases hn : t.W = []
    · have ht : tk = false := by
        cases tk with
        | false => rfl
        | true => exact absurd hn (htk.1 rfl)
      subst ht
      rw [if_neg (by simp [hn])]
      refine ⟨.d7, ⟨hb.up rfl rfl rfl rfl hb.rl rfl (Int.le_refl _) hb.i2 ?_, ⟨rfl, hf.job, ?_, ?_, hf.stamp, hf.took, hf.phased, hf.busy, hf.fin⟩, h1⟩, .inl ⟨hl, .inr rfl⟩⟩
      · show MZ _ (mdz t.W) 2 lw t.W
        rw [hn]; exact hb.mz.load 9
      · show (if t.took then (6 : Int) else 7) = 7
        rw [hf.took]; rfl
      · show t.made = mdz t.W
        rw [hn]; exact hf.made
    · have ht : tk = true := htk.2 hn
      subst ht
      rw [if_pos hn]
      exact ⟨.d5 0, ⟨hb.up rfl rfl rfl rfl hb.rl rfl (Int.le_refl _) hb.i2 (hb.mz.load 9), ⟨rfl, hf.job, rfl, hf.made, hf.stamp, hf.took, hf.phased, hf.busy, hf.fin⟩, h1, rfl, by have := pos_ne.2 hn; show 0 < t.W.length; omega⟩, .inl ⟨hl, .inl rfl⟩⟩
  · have e : stepX M t = (M.loadI 9, ({ t with i := 0, life := 3, cause := 3, made := 0, job := 5, part := 0 }, 0)) := by
      rw [e0, if_neg (by simpa using hl)]; unfold abortT undoneT; rw [if_pos (by show (t.took || t.phased) = true; rw [hf.phased]; simp)]
    rw [stepU_c0 e]
    exact ⟨.u6 tk, ⟨hb.up rfl rfl rfl rfl hb.rl rfl (Int.le_refl _) hb.i2 (hb.mz.load 9), ⟨rfl, rfl, rfl, rfl, hf.stamp, hf.took, hf.phased, hf.busy, hf.fin⟩, rfl⟩, .inr ⟨hl, rfl⟩⟩
theorem on_u6 {tk : Bool} (h : SgOk P wt lw M t u (.u6 tk)) : SgOk P wt lw (stepU M t u).1 (stepU M t u).2.1 (stepU M t u).2.2 (if tk then .u6 false else .e7) := by
  obtain ⟨hb, hf, hc⟩ := h
  cases tk with
  | true =>
    have e : stepX M t = (M.storeI 1 0, ({ t with took := false }, 0)) := by
      rw [stepX_undo hf.job]; unfold undoT; rw [if_pos hf.took, hf.stamp]; unfold undoneT; rw [if_pos (by show (false || t.phased) = true; rw [hf.phased]; rfl)]
    rw [stepU_c0 e]
    exact ⟨hb.up rfl rfl rfl rfl hb.rl rfl (Int.le_refl _) hb.i2 (hb.mz.seq 0), ⟨hf.life, hf.job, hf.part, hf.made, hf.stamp, rfl, hf.phased, hf.busy, hf.fin⟩, hc⟩
  | false =>
    have e : stepX M t = (M.storeI 13 0, ({ t with phased := false, job := 0 }, 2)) := by
      rw [stepX_undo hf.job]; unfold undoT; rw [if_neg (by rw [hf.took]; decide), ph_val t hb.th]; unfold undoneT; rw [if_neg (by show ¬ (t.took || false) = true; rw [hf.took]; decide)]
    rw [stepU_c2 e]
    exact ⟨hb.up rfl rfl rfl rfl hb.rl rfl (Int.le_refl _) hb.i2 (hb.mz.phase 0), ⟨hf.life, rfl, hf.part, hf.made, hf.stamp, hf.took, rfl, hf.busy, rfl⟩, hc⟩
theorem on_d5 {k : Nat} (h : SgOk P wt lw M t u (.d5 k)) : ∃ s, SgOk P wt lw (stepU M t u).1 (stepU M t u).2.1 (stepU M t u).2.2 s ∧ (s = .d5 (k + 1) ∨ s = .d6) ∧ (stepU M t u).2.1.W = t.W := by
  obtain ⟨hb, hf, h1, hi, hk⟩ := h
  have hp5 : t.part = 5 := hf.part
  obtain ⟨q, hq⟩ : ∃ q, t.W.getD k (0, 0) = q := ⟨_, rfl⟩
  have hqm : q ∈ t.W := by rw [← hq, getD_at _ _ _ hk]; exact List.getElem_mem hk
  have hmz : MZ (M.storeI q.1 q.2) 1 2 lw (t.W.take (k + 1)) := by
    rw [take_snoc _ _ hk, hq]; exact hb.mz.data q.1 q.2 (hb.wd q hqm)
  have e0 : stepX M t = (M.storeI q.1 q.2, (settleT { t with i := t.i + 1 }, 0)) := by
    rw [stepX_commit hf.job (by rw [hp5]; decide)]; unfold commitT
    rw [if_neg (by rw [hp5]; decide), if_neg (by rw [hp5]; decide), if_neg (by rw [hp5]; decide), if_pos hp5, show t.i.toNat = k by omega, hq]
  rw [stepU_c0 e0]
  have hs : settleT { t with i := t.i + 1 } = if k + 1 < t.W.length then { t with i := t.i + 1 } else { t with i := t.i + 1, part := 6 } := by
    unfold settleT
    rw [if_neg (by show ¬ t.part = 2; rw [hp5]; decide), if_pos (show ({ t with i := t.i + 1 } : TxS).part = 5 from hp5)]
    by_cases hl : k + 1 < t.W.length
    · rw [if_pos (by show t.i + 1 < (t.W.length : Int); omega), if_pos hl]
    · rw [if_neg (by show ¬ t.i + 1 < (t.W.length : Int); omega), if_neg hl]
      show { t with i := t.i + 1, part := if t.took then (6 : Int) else 7 } = _
      rw [hf.took]; rfl
  rw [hs]
  by_cases hl : k + 1 < t.W.length
  · rw [if_pos hl]
    exact ⟨.d5 (k + 1), ⟨hb.up rfl rfl rfl rfl hb.rl rfl (Int.le_refl _) hb.i2 hmz, ⟨hf.life, hf.job, hf.part, hf.made, hf.stamp, hf.took, hf.phased, hf.busy, hf.fin⟩, h1, by show t.i + 1 = _; omega, hl⟩, .inl rfl, rfl⟩
  · rw [if_neg hl]
    rw [List.take_of_length_le (by omega)] at hmz
    exact ⟨.d6, ⟨hb.up rfl rfl rfl rfl hb.rl rfl (Int.le_refl _) hb.i2 hmz, ⟨hf.life, hf.job, rfl, hf.made, hf.stamp, hf.took, hf.phased, hf.busy, hf.fin⟩, h1, by show t.W ≠ []; intro e; rw [e] at hk; simp at hk⟩, .inr rfl, rfl⟩
theorem on_d6 (h : SgOk P wt lw M t u .d6) : SgOk P wt lw (stepU M t u).1 (stepU M t u).2.1 (stepU M t u).2.2 .d7 := by
  obtain ⟨hb, hf, h1, hw⟩ := h
  have hp6 : t.part = 6 := hf.part
  have e0 : stepX M t = (M.storeI 1 2, ({ t with took := false, part := 7 }, 0)) := by
    rw [stepX_commit hf.job (by rw [hp6]; decide)]; unfold commitT
    rw [if_neg (by rw [hp6]; decide), if_neg (by rw [hp6]; decide), if_neg (by rw [hp6]; decide), if_neg (by rw [hp6]; decide), if_pos hp6, hf.made]
    rfl
  rw [stepU_c0 e0]
  refine ⟨hb.up rfl rfl rfl rfl hb.rl rfl (Int.le_refl _) hb.i2 ?_, ⟨hf.life, hf.job, rfl, ?_, hf.stamp, rfl, hf.phased, hf.busy, hf.fin⟩, h1⟩
  · show MZ _ (mdz t.W) 2 lw t.W
    rw [mdz_ne hw]; exact hb.mz.seq 2
  · show t.made = mdz t.W
    rw [mdz_ne hw]; exact hf.made
theorem on_d7 (h : SgOk P wt lw M t u .d7) : SgOk P wt lw (stepU M t u).1 (stepU M t u).2.1 (stepU M t u).2.2 .e5 := by
  obtain ⟨hb, hf, h1⟩ := h
  have hp7 : t.part = 7 := hf.part
  have e0 : stepX M t = (M.storeI 13 0, ({ t with phased := false, stamp := mdz t.W, job := 0 }, 1)) := by
    rw [stepX_commit hf.job (by rw [hp7]; decide)]; unfold commitT
    rw [if_neg (by rw [hp7]; decide), if_neg (by rw [hp7]; decide), if_neg (by rw [hp7]; decide), if_neg (by rw [hp7]; decide), if_neg (by rw [hp7]; decide), ph_val t hb.th]
    by_cases hw : t.W = []
    · rw [if_neg (by rw [pos_ne]; simp [hw]), show mdz t.W = t.stamp by rw [hw, hf.stamp]; rfl]; rfl
    · rw [if_pos (pos_ne.2 hw), hf.made]; rfl
  rw [stepU_c1 e0, done_end _ (by rw [hb.hP, h1]; omega)]
  exact ⟨hb.up rfl rfl rfl rfl hb.rl rfl (Int.le_refl _) hb.i2 (hb.mz.phase 0), ⟨hf.life, rfl, hf.part, hf.made, rfl, hf.took, rfl, rfl, rfl⟩⟩
end
end Go.Proofs.Ytfmamedkiaimpaa
namespace Go.Proofs.Ytfmamedkiaimpaa
open Go.RowKit
theorem valU_wf (rd : List (Int × Int)) (a x : Int) (hx : (Lit.int .i64 x).wf = true) : (Lit.int .i64 (valU rd a x)).wf = true := by
  unfold valU
  suffices ∀ (l : List (Int × Int)) (z : Int), (Lit.int .i64 z).wf = true → (Lit.int .i64 (l.foldl (fun z e => if e.1 = a then wrap64 (e.2 + x) else z) z)).wf = true from this rd x hx
  intro l
  induction l with
  | nil => exact fun z h => h
  | cons e l ih =>
    intro z h
    rw [List.foldl_cons]
    refine ih _ ?_
    split
    · exact wrap64_wf _
    · exact h
theorem isD_nn {p : Int} (h : isD p) : 0 ≤ p := by rcases h with e | e | e | e <;> omega
theorem putW_ok (W : List (Int × Int)) (p x : Int) (hp : isD p) (hx : (Lit.int .i64 x).wf = true) (hl : W.length ≤ 9) (h1 : ∀ e ∈ W, isD e.1) (h2 : ∀ e ∈ W, (Lit.int .i64 e.2).wf = true) (h3 : (W.map Prod.fst).Nodup) :
    putOk 32 W p = true ∧ (∀ e ∈ putW 32 W p x, isD e.1) ∧ (∀ e ∈ putW 32 W p x, (Lit.int .i64 e.2).wf = true) ∧ ((putW 32 W p x).map Prod.fst).Nodup ∧ ((putW 32 W p x).length : Int) ≤ W.length + 1 := by
  have hn := isD_nn hp
  have ho : putOk 32 W p = true := by
    unfold putOk
    simp [hn]; omega
  refine ⟨ho, ?_⟩
  unfold putW
  rw [if_neg (by omega)]
  cases hk : hasKey W p with
  | true =>
    obtain ⟨i, e, hi, hik⟩ := findL_at W p hk
    rw [if_pos rfl, e, show ((i : Int)).toNat = i by omega]
    have hm : (W.set i (p, x)).map Prod.fst = W.map Prod.fst := by
      rw [List.map_set]
      have : (p, x).1 = (W.map Prod.fst)[i]'(by simpa using hi) := by rw [List.getElem_map, ← getD_at W (0, 0) i hi, hik]
      rw [this, List.set_getElem_self]
    refine ⟨fun z hz => ?_, fun z hz => ?_, by rw [hm]; exact h3, by simp; omega⟩
    · rcases List.mem_or_eq_of_mem_set hz with h | h
      · exact h1 z h
      · rw [h]; exact hp
    · rcases List.mem_or_eq_of_mem_set hz with h | h
      · exact h2 z h
      · rw [h]; exact hx
  | false =>
    rw [if_neg (by simp), if_pos (by omega)]
    refine ⟨fun z hz => ?_, fun z hz => ?_, ?_, by simp⟩
    · rcases List.mem_append.1 hz with h | h
      · exact h1 z h
      · rw [List.mem_singleton.1 h]; exact hp
    · rcases List.mem_append.1 hz with h | h
      · exact h2 z h
      · rw [List.mem_singleton.1 h]; exact hx
    · rw [List.map_append, List.nodup_append]
      refine ⟨h3, by simp, fun a ha b hb e => ?_⟩
      have hb : b = p := by simpa using hb
      rw [hb] at e
      obtain ⟨q, hq, rfl⟩ := List.mem_map.1 ha
      have : hasKey W p = true := by
        unfold hasKey
        rw [List.any_eq_true]
        exact ⟨q, hq, by simpa using e⟩
      rw [hk] at this; cases this
section
variable {P : List OpZ} {wt : Bool} {lw sq ph : Int} {M M' : MemS} {t t' : TxS} {u u' : RunM} {W : List (Int × Int)}
theorem ask_id (hp : PlOk P) (h : SgOk P wt lw M t u .id) : (SgOk P wt lw M (askU t u).1 (askU t u).2 .id ∧ (askU t u).2.i = u.i + 1) ∨ (SgOk P wt lw M (askU t u).1 (askU t u).2 (.lk 0) ∧ (askU t u).2.i = u.i) ∨ SgOk P wt lw M (askU t u).1 (askU t u).2 .c3 := by
  obtain ⟨hb, hf, hi1⟩ := h
  have hal : ((t.life == 1) && (t.job == 0)) = true := by rw [hf.life, hf.job]; rfl
  have hi2 := hb.i2
  have hrl := hb.rl; have hwl := hb.wl
  have hp8 := hp.len
  unfold askU
  by_cases hc : (P.length : Int) < u.i
  · have e : askR t u = (askT t 4 3, 0) := by
      unfold askR commitAsk; rw [if_neg (by omega), if_pos (by rw [hb.hP]; exact hc), hal]; rfl
    rw [e]
    right; right
    exact ⟨hb.up rfl rfl rfl rfl hrl rfl (Int.le_refl _) hi2 hb.mz, ⟨hf.life, rfl, rfl, hf.made, hf.stamp, hf.took, hf.phased, rfl, hf.fin⟩, by show u.i = _; omega⟩
  · obtain ⟨k, hk⟩ : ∃ k : Nat, u.i = (k : Int) + 1 := ⟨u.i.toNat - 1, by omega⟩
    have hkl : k < P.length := by omega
    have hke : u.i.toNat - 1 = k := by omega
    have hat := hp.at_ k hkl
    have hwf := hp.wf k hkl
    obtain ⟨⟨kd, at_, x⟩, hq⟩ : ∃ q, P.getD k op0 = q := ⟨_, rfl⟩
    rw [hq] at hat hwf
    dsimp only at hat hwf
    have hD := dA_is at_ hat.1 hat.2
    have hA : askR t u = (if kd = 0 then readT t (dA at_) else writeT t (dA at_) (valU u.rd at_ x)) := by
      unfold askR; rw [if_neg (by omega), if_neg (by rw [hb.hP]; exact hc), hke, hb.hP, hq]
    have dm := fun y => done_mid (u := { u with busy := false }) y (by show u.i ≤ (u.P.length : Int); rw [hb.hP]; omega)
    rw [hA]
    by_cases hkd : kd = 0
    · rw [if_pos hkd]
      by_cases hh : hasW t.W (dA at_) = true
      · left
        have e : readT t (dA at_) = ({ t with value := getW t.W (dA at_) }, 1) := by unfold readT; rw [if_pos hal, if_pos hh]
        rw [e]
        obtain ⟨d1, d2, d3, d4⟩ := dm (getW t.W (dA at_))
        exact ⟨⟨hb.up rfl rfl rfl rfl (by show (t.R.length : Int) ≤ (doneU { u with busy := false } (getW t.W (dA at_))).i; rw [d1]; show (t.R.length : Int) ≤ u.i + 1; omega) d4 (by show u.i ≤ (doneU { u with busy := false } (getW t.W (dA at_))).i; rw [d1]; show u.i ≤ u.i + 1; omega) (by show (doneU { u with busy := false } (getW t.W (dA at_))).i ≤ _; rw [d1]; show u.i + 1 ≤ _; omega) hb.mz, ⟨hf.life, hf.job, rfl, hf.made, hf.stamp, hf.took, hf.phased, d2, d3.trans hf.fin⟩, by show 1 ≤ (doneU { u with busy := false } (getW t.W (dA at_))).i; rw [d1]; show 1 ≤ u.i + 1; omega⟩, d1⟩
      · right; left
        have e : readT t (dA at_) = (askT { t with pl := dA at_ } 2 0, 0) := by
          unfold readT
          rw [if_pos hal, if_neg hh, if_neg]
          rintro (z | z)
          · exact hash_ok _ hD z
          · unfold roomFor at z
            rw [decide_eq_true (by omega)] at z
            simp at z
        rw [e]
        exact ⟨⟨hb.up rfl rfl rfl rfl hrl rfl (Int.le_refl _) hi2 hb.mz, ⟨hf.life, rfl, rfl, hf.made, hf.stamp, hf.took, hf.phased, rfl, hf.fin⟩, hi1, by show u.i ≤ _; omega, by decide, fun z => absurd z (by decide)⟩, rfl⟩
    · rw [if_neg hkd]
      left
      obtain ⟨p1, p2, p3, p4, p5⟩ := putW_ok t.W (dA at_) (valU u.rd at_ x) hD (valU_wf _ _ _ hwf) (by omega) hb.wd hb.wf hb.wn
      have e : writeT t (dA at_) (valU u.rd at_ x) = ({ t with W := putW 32 t.W (dA at_) (valU u.rd at_ x) }, 1) := by
        unfold writeT; rw [if_pos hal, if_neg (hash_ok _ hD), if_pos p1]
      rw [e]
      obtain ⟨d1, d2, d3, d4⟩ := dm t.value
      have hi : (doneU { u with busy := false } t.value).i = u.i + 1 := d1
      exact ⟨⟨⟨d4.trans hb.hP, hb.hV, hb.th, hb.top, p2, p3, p4, by show ((putW 32 t.W (dA at_) (valU u.rd at_ x)).length : Int) ≤ (doneU { u with busy := false } t.value).i; rw [hi]; omega, by show (t.R.length : Int) ≤ (doneU { u with busy := false } t.value).i; rw [hi]; omega, by show 0 ≤ (doneU { u with busy := false } t.value).i; rw [hi]; omega, by show (doneU { u with busy := false } t.value).i ≤ _; rw [hi]; omega, hb.mz⟩, ⟨hf.life, hf.job, rfl, hf.made, hf.stamp, hf.took, hf.phased, d2, d3.trans hf.fin⟩, by show 1 ≤ (doneU { u with busy := false } t.value).i; rw [hi]; omega⟩, d1⟩
theorem Sg_busy {s : Sg} (h : SgOk P wt lw M t u s) (hs : s ≠ .id) : ¬ (u.busy = false ∧ u.fin = 0) := by
  cases s with
  | bg => rw [h.2.1.busy]; simp
  | id => exact absurd rfl hs
  | lk p => rw [h.2.1.busy]; simp
  | c3 => rw [h.2.1.busy]; simp
  | c4 => rw [h.2.1.busy]; simp
  | c2 tk => rw [h.2.1.busy]; simp
  | d5 k => rw [h.2.1.busy]; simp
  | d6 => rw [h.2.1.busy]; simp
  | d7 => rw [h.2.1.busy]; simp
  | e5 => rw [h.2.fin]; simp
  | u6 tk => rw [h.2.1.busy]; simp
  | e7 => rw [h.2.1.fin]; simp
/-- what it asks till it has to wait for an access -/
theorem loop_id (hp : PlOk P) : ∀ (n : Nat) (t : TxS) (u : RunM), SgOk P wt lw M t u .id → ((P.length : Int) + 1 - u.i).toNat < n →
    ((SgOk P wt lw M (askLoop n t u).1 (askLoop n t u).2 (.lk 0) ∧ u.i ≤ (askLoop n t u).2.i) ∨ SgOk P wt lw M (askLoop n t u).1 (askLoop n t u).2 .c3)
  | 0, _, _, _, h => absurd h (by omega)
  | n + 1, t, u, h, hn => by
    rw [loop_in n t u ⟨h.2.1.busy, h.2.1.fin⟩]
    have hi2 := h.1.i2
    rcases ask_id hp h with ⟨h1, h2⟩ | ⟨h1, h2⟩ | h1
    · have hi3 := h1.1.i2
      rcases loop_id hp n _ _ h1 (by omega) with ⟨g1, g2⟩ | g1
      · exact .inl ⟨g1, by omega⟩
      · exact .inr g1
    · rw [loop_out n _ _ (Sg_busy h1 (by simp))]
      exact .inl ⟨h1, by show u.i ≤ (askU t u).2.i; omega⟩
    · rw [loop_out n _ _ (Sg_busy h1 (by simp))]
      exact .inr h1
theorem b2_le (b : Bool) : b2 b 1 ≤ 1 ∧ 0 ≤ b2 b 1 := by cases b <;> decide
/-- a stage that waits for an access, behind it -/
theorem on_step (hp : PlOk P) (hl : lw = 0 ∨ wt = true) {s : Sg} (h : SgOk P wt lw M t u s) (hs : s ≠ .id) (hb : s ≠ .bg) (hf : u.fin = 0) : ∃ s', SgOk P wt lw (stepU M t u).1 (stepU M t u).2.1 (stepU M t u).2.2 s' ∧
    mu P (stepU M t u).2.1 (stepU M t u).2.2 s' < mu P t u s ∧ (s.dec → s'.dec) ∧ (lw ≠ 0 → ¬ s.dec → ¬ s'.dec) ∧ (lw = 0 → (∀ tk, s ≠ .u6 tk) → (∀ tk, s' ≠ .u6 tk) ∧ s' ≠ .e7) := by
  have hp8 := hp.len
  cases s with
  | bg => exact absurd rfl hb
  | id => exact absurd rfl hs
  | lk p =>
    have hi2 := h.1.i2
    rcases (show p = 0 ∨ p = 1 ∨ p = 2 by have := h.2.2.2.2.1; omega) with rfl | rfl | rfl
    · obtain ⟨g, e⟩ := on_lk0 h
      exact ⟨_, g, by rw [e]; simp only [mu]; omega, fun z => z, fun _ z => z, fun _ _ => ⟨fun _ => by simp, by simp⟩⟩
    · rcases on_lk1 h with ⟨g, e, _⟩ | ⟨g, e, _⟩
      · exact ⟨_, g, by simp only [mu]; rw [e]; omega, fun z => z, fun _ z => z, fun _ _ => ⟨fun _ => by simp, by simp⟩⟩
      · exact ⟨_, g, by rw [e]; simp only [mu]; omega, fun z => z, fun _ z => z, fun _ _ => ⟨fun _ => by simp, by simp⟩⟩
    · rcases on_lk2 h with ⟨hl0, g, e⟩ | ⟨hl0, g⟩
      · exact ⟨_, g, by simp only [mu]; rw [e]; omega, fun z => z, fun _ z => z, fun _ _ => ⟨fun _ => by simp, by simp⟩⟩
      · exact ⟨_, g, by simp only [mu]; omega, fun z => z, fun _ z => z, fun z _ => absurd z hl0⟩
  | c3 =>
    obtain ⟨s', g, e⟩ := on_c3 h
    refine ⟨s', g, ?_⟩
    rcases e with rfl | rfl | ⟨rfl, hw⟩
    · exact ⟨by simp only [mu]; omega, fun z => z, fun _ z => z, fun _ _ => ⟨fun _ => by simp, by simp⟩⟩
    · exact ⟨by simp only [mu]; omega, fun z => z, fun _ z => z, fun _ _ => ⟨fun _ => by simp, by simp⟩⟩
    · refine ⟨by simp only [mu]; omega, fun z => z.elim, fun z _ => ?_, fun _ _ => ⟨fun _ => by simp, by simp⟩⟩
      rcases hl with e | e
      · exact absurd e z
      · rw [hw] at e; cases e
  | c4 =>
    obtain ⟨s', g, e⟩ := on_c4 h
    refine ⟨s', g, ?_⟩
    have hwl := g
    rcases e with rfl | ⟨rfl, hw⟩
    · exact ⟨by simp only [mu]; omega, fun z => z, fun _ z => z, fun _ _ => ⟨fun _ => by simp, by simp⟩⟩
    · have h1 := g.1.wl; have h2 := g.1.i2
      refine ⟨by simp only [mu]; omega, fun z => z.elim, fun z _ => ?_, fun _ _ => ⟨fun _ => by simp, by simp⟩⟩
      rcases hl with e | e
      · exact absurd e z
      · rw [hw] at e; cases e
  | c2 tk =>
    obtain ⟨s', g, e⟩ := on_c2 h
    refine ⟨s', g, ?_⟩
    rcases e with ⟨hl0, rfl | rfl⟩ | ⟨hl0, rfl⟩
    · have h1 := g.1.wl; have h2 := g.1.i2
      exact ⟨by simp only [mu]; omega, fun z => z.elim, fun z => absurd hl0 z, fun _ _ => ⟨fun _ => by simp, by simp⟩⟩
    · exact ⟨by simp only [mu]; omega, fun z => z.elim, fun z => absurd hl0 z, fun _ _ => ⟨fun _ => by simp, by simp⟩⟩
    · have := b2_le tk
      exact ⟨by simp only [mu]; omega, fun z => z, fun _ z => z, fun z => absurd z hl0⟩
  | d5 k =>
    obtain ⟨s', g, e, hW⟩ := on_d5 h
    refine ⟨s', g, ?_⟩
    have hk := h.2.2.2.2
    rcases e with rfl | rfl
    · exact ⟨by simp only [mu]; rw [hW]; omega, fun z => z, fun _ z => z, fun _ _ => ⟨fun _ => by simp, by simp⟩⟩
    · exact ⟨by simp only [mu]; omega, fun z => z, fun _ z => z, fun _ _ => ⟨fun _ => by simp, by simp⟩⟩
  | d6 => exact ⟨_, on_d6 h, by simp only [mu]; omega, fun z => z, fun _ z => z, fun _ _ => ⟨fun _ => by simp, by simp⟩⟩
  | d7 => exact ⟨_, on_d7 h, by simp only [mu]; omega, fun z => z, fun _ z => z, fun _ _ => ⟨fun _ => by simp, by simp⟩⟩
  | e5 => have := h.2.fin; omega
  | u6 tk =>
    have g := on_u6 h
    cases tk with
    | true => exact ⟨_, g, by show (8 + b2 false 1 : Int) < 8 + b2 true 1; decide, fun z => z, fun _ z => z, fun _ z => absurd rfl (z true)⟩
    | false => exact ⟨_, g, by show (0 : Int) < 8 + b2 false 1; decide, fun z => z, fun _ z => z, fun _ z => absurd rfl (z false)⟩
  | e7 => have := h.2.1.fin; omega
/-- a whole pick -/
theorem on_next (hp : PlOk P) (hl : lw = 0 ∨ wt = true) {s : Sg} (h : SgOk P wt lw M t u s) (hb : s ≠ .bg) (hf : u.fin = 0) : ∃ s', SgOk P wt lw (nextU M t u).1 (nextU M t u).2.1 (nextU M t u).2.2 s' ∧ s' ≠ .bg ∧
    mu P (nextU M t u).2.1 (nextU M t u).2.2 s' < mu P t u s ∧ (s.dec → s'.dec) ∧ (lw ≠ 0 → ¬ s.dec → ¬ s'.dec) ∧ (lw = 0 → (∀ tk, s ≠ .u6 tk) → (∀ tk, s' ≠ .u6 tk) ∧ s' ≠ .e7) := by
  by_cases hs : s = .id
  · subst hs
    have hi2 := h.1.i2
    have hi1 := h.2.2
    have hlo := loop_id hp (u.P.length + 3) t u h (by rw [h.1.hP]; omega)
    obtain ⟨⟨t', u'⟩, hal⟩ : ∃ z, askLoop (u.P.length + 3) t u = z := ⟨_, rfl⟩
    rw [hal] at hlo
    dsimp only at hlo
    have nobg : ∀ {s' : Sg}, SgOk P wt lw (stepU M t' u').1 (stepU M t' u').2.1 (stepU M t' u').2.2 s' → s' = .bg → False := fun {s'} g e => by
      subst e
      have hz : (stepU M t' u').2.2.i = 0 := g.2.2
      have h1 : 1 ≤ u'.i := by
        rcases hlo with ⟨z, _⟩ | z
        · exact z.2.2.1
        · rw [z.2.2]; omega
      have h2 : u'.i ≤ (stepU M t' u').2.2.i := by
        unfold stepU
        dsimp only
        split
        · unfold doneU
          split
          · exact Int.le_refl _
          · split
            · show u'.i ≤ u'.i + 1; omega
            · show u'.i ≤ u'.i + 1; omega
        · split <;> exact Int.le_refl _
      omega
    rcases hlo with ⟨g, gi⟩ | g
    · have hf' : u'.fin = 0 := g.2.1.fin
      rw [next_step M t t' u u' hf hal hf']
      obtain ⟨s', k1, k2, k3, k4, k5⟩ := on_step hp hl g (by simp) (by simp) hf'
      refine ⟨s', k1, fun e => nobg k1 e, ?_, fun z => z.elim, fun z z2 => k4 z (fun z => z), fun z z2 => k5 z (fun _ => by simp)⟩
      simp only [mu] at k2 ⊢
      omega
    · have hf' : u'.fin = 0 := g.2.1.fin
      rw [next_step M t t' u u' hf hal hf']
      obtain ⟨s', k1, k2, k3, k4, k5⟩ := on_step hp hl g (by simp) (by simp) hf'
      refine ⟨s', k1, fun e => nobg k1 e, ?_, fun z => z.elim, fun z z2 => k4 z (fun z => z), fun z z2 => k5 z (fun _ => by simp)⟩
      simp only [mu] at k2 ⊢
      omega
  · have hal := loop_out (u.P.length + 3) t u (Sg_busy h hs)
    rw [next_step M t t u u hf hal hf]
    obtain ⟨s', k1, k2, k3, k4, k5⟩ := on_step hp hl h hs hb hf
    refine ⟨s', k1, fun e => ?_, k2, k3, k4, k5⟩
    subst e
    cases s with
    | bg => exact absurd rfl hb
    | id => exact absurd rfl hs
    | lk p => simp only [mu] at k2; have := h.2.2.1; have := h.1.i2; have := hp.len; omega
    | c3 => simp only [mu] at k2; omega
    | c4 => simp only [mu] at k2; omega
    | c2 tk => simp only [mu] at k2; omega
    | d5 k => simp only [mu] at k2; have := h.1.wl; have := h.1.i2; have := hp.len; omega
    | d6 => simp only [mu] at k2; omega
    | d7 => simp only [mu] at k2; omega
    | e5 => simp only [mu] at k2; omega
    | u6 tk => simp only [mu] at k2; have := b2_le tk; omega
    | e7 => simp only [mu] at k2; omega
end
end Go.Proofs.Ytfmamedkiaimpaa
