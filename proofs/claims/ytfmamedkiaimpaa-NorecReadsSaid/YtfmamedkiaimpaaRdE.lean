/- NorecReads (plain): what one of three runs is between its picks, told by the sequence word s and the words m; n: what it still needs. -/
import Derived.Test.YtfmamedkiaimpaaTxS3
import Derived.Test.YtfmamedkiaimpaaTxR
namespace Go.Proofs.Ytfmamedkiaimpaa
open Go.RowKit
/-- all that there is -/
def D4 (f : Int → Int) : Int := wrap64 (f 26 + f 28 + f 30 + f 32)
theorem D4_congr {f g : Int → Int} (h : ∀ p, isD p → f p = g p) : D4 f = D4 g := by
  unfold D4; rw [h 26 (.inl rfl), h 28 (.inr (.inl rfl)), h 30 (.inr (.inr (.inl rfl))), h 32 (.inr (.inr (.inr rfl)))]
def rdP : List OpZ := [(0, 0, 0), (0, 1, 0), (0, 2, 0), (0, 3, 0)]
def mvP (a b x : Int) : List OpZ := [(0, a, 0), (0, b, 0), (1, a, -x), (1, b, x)]
structure MvOk (a b : Int) : Prop where
  a0 : 0 ≤ a
  a4 : a < 4
  b0 : 0 ≤ b
  b4 : b < 4
  ne : a ≠ b
/-- item i is a read of place a; c: what is needed from there -/
inductive FarR : List OpZ → Int → List (Int × Int) → Int → Int → Prop
  | r1 : FarR rdP 1 [] 0 10
  | r2 (v0 : Int) : FarR rdP 2 [(0, v0)] 1 8
  | r3 (v0 v1 : Int) : FarR rdP 3 [(0, v0), (1, v1)] 2 6
  | r4 (v0 v1 v2 : Int) : FarR rdP 4 [(0, v0), (1, v1), (2, v2)] 3 4
  | m1 {a b x : Int} : MvOk a b → FarR (mvP a b x) 1 [] a 24
  | m2 {a b x : Int} (v : Int) : MvOk a b → FarR (mvP a b x) 2 [(a, v)] b 22
/-- all was read -/
inductive FarC : List OpZ → Int → List (Int × Int) → Int → Prop
  | r5 (v0 v1 v2 v3 : Int) : FarC rdP 5 [(0, v0), (1, v1), (2, v2), (3, v3)] 2
  | m3 {a b x : Int} (v v' : Int) : MvOk a b → FarC (mvP a b x) 3 [(a, v), (b, v')] 20
/-- what is to be written -/
inductive FarW : List OpZ → List (Int × Int) → List (Int × Int) → Prop
  | mk {a b x : Int} (v v' : Int) : MvOk a b → FarW (mvP a b x) [(a, v), (b, v')] [(dA a, wrap64 (v + -x)), (dA b, wrap64 (v' + x))]
/-- a plan; c: what it needs from its first item on -/
inductive PK : List OpZ → Int → Prop
  | r : PK rdP 10
  | m {a b x : Int} : MvOk a b → PK (mvP a b x) 24
def rdR (rd : List (Int × Int)) : List (Int × Int) := rd.map fun e => (dA e.1, e.2)
/-- what was read stood there together -/
structure Snap (s : Int) (m : Int → Int) (t : TxS) : Prop where
  s0 : 0 ≤ t.stamp
  s1 : t.stamp ≤ s
  ev : oddB t.stamp = false
  sn : ∃ C : Int → Int, D4 C = 40 ∧ (∀ e ∈ t.R, C e.1 = e.2) ∧ (t.stamp = s → ∀ p, isD p → C p = m p)
inductive Seek (s : Int) (m : Int → Int) (t : TxS) (q : Int) : Prop
  | p8 : t.part = 8 → (t.R.length : Int) + 2 ≤ q → Seek s m t q
  | p9 (j : Nat) : t.part = 9 → t.i = (j : Int) → j < t.R.length → 0 ≤ t.now → t.now ≤ s → oddB t.now = false → (t.now = s → (∀ l, l < j → m (t.R.getD l (0, 0)).1 = (t.R.getD l (0, 0)).2) ∧ (t.R.length : Int) - t.i + 1 ≤ q) → (t.now ≠ s → 2 * (t.R.length : Int) - t.i + 3 ≤ q) → Seek s m t q
  | p10 : t.part = 10 → 0 ≤ t.now → t.now ≤ s → oddB t.now = false → (t.now = s → (∀ e ∈ t.R, m e.1 = e.2) ∧ 1 ≤ q) → (t.now ≠ s → (t.R.length : Int) + 3 ≤ q) → Seek s m t q
inductive Look (s : Int) (m : Int → Int) (t : TxS) (c n : Int) : Prop
  | p0 : t.part = 0 → (t.stamp = s → c ≤ n) → (t.stamp ≠ s → (t.R.length : Int) + 4 + c ≤ n) → Look s m t c n
  | p1 : t.part = 1 → (t.stamp = s → t.val = m t.pl ∧ c - 1 ≤ n) → (t.stamp ≠ s → (t.R.length : Int) + 3 + c ≤ n) → Look s m t c n
  | sk : Seek s m t (n - c) → Look s m t c n
inductive Com (s : Int) (m : Int → Int) (t : TxS) (n : Int) : Prop
  | p4 : t.part = 4 → (t.stamp = s → 19 ≤ n) → (t.stamp ≠ s → 24 ≤ n) → Com s m t n
  | sk : Seek s m t (n - 19) → Com s m t n
structure Base (k : Int) (P : List OpZ) (t : TxS) (u : RunM) : Prop where
  hP : u.P = P
  hV : t.V = []
  th : t.th = k
  top : t.top = 1000
/-- life, job, took, phased, busy -/
structure Fg (t : TxS) (u : RunM) (life job : Int) (took phased busy : Bool) : Prop where
  life : t.life = life
  job : t.job = job
  took : t.took = took
  phased : t.phased = phased
  busy : u.busy = busy
/-- the word a place will have when all of W is written -/
def after (m : Int → Int) (W : List (Int × Int)) : Int → Int := fun p => W.foldl (fun z e => if e.1 = p then e.2 else z) (m p)
inductive RSt (s : Int) (m : Int → Int) (ph : Int) (P : List OpZ) (t : TxS) (u : RunM) (n : Int) : Prop
  | new (c : Int) : PK P c → Fg t u 0 0 false false false → u.fin = 0 → u.i = 0 → u.rd = [] → ph = 0 → c + 1 ≤ n → RSt s m ph P t u n
  | bg (c : Int) : PK P c → Fg t u 1 1 false false true → u.fin = 0 → u.i = 0 → u.rd = [] → t.R = [] → t.W = [] → t.part = 0 → ph = 0 → c + 1 ≤ n → RSt s m ph P t u n
  | idR (a c : Int) : FarR P u.i u.rd a c → Fg t u 1 0 false false false → u.fin = 0 → t.R = rdR u.rd → t.W = [] → ph = 0 → Snap s m t → (t.stamp = s → c ≤ n) → (t.stamp ≠ s → (t.R.length : Int) + 4 + c ≤ n) → RSt s m ph P t u n
  | idC (c : Int) : FarC P u.i u.rd c → Fg t u 1 0 false false false → u.fin = 0 → t.R = rdR u.rd → t.W = [] → ph = 0 → Snap s m t → (t.stamp = s → c ≤ n) → (t.stamp ≠ s → c + 5 ≤ n) → RSt s m ph P t u n
  | lk (a c : Int) : FarR P u.i u.rd a c → Fg t u 1 2 false false true → u.fin = 0 → t.R = rdR u.rd → t.W = [] → ph = 0 → Snap s m t → t.pl = dA a → Look s m t c n → RSt s m ph P t u n
  | cm : FarW P u.rd t.W → u.i = 5 → Fg t u 1 4 false true true → u.fin = 0 → t.R = rdR u.rd → ph = 2 → Snap s m t → t.stamp + 2 ≤ 1000 → Com s m t n → RSt s m ph P t u n
  | d5 (k : Nat) : u.rd.length = 2 → u.i = 5 → P.length = 4 → Fg t u 2 4 true true true → u.fin = 0 → t.part = 5 → ph = 2 → t.W.length = 2 → t.i = (k : Int) → k < 2 → t.made = s + 1 → s + 1 ≤ 1000 → oddB s = true → (∀ e ∈ t.W, isD e.1) → D4 (after m (t.W.drop k)) = 40 → 4 - (k : Int) ≤ n → RSt s m ph P t u n
  | d6 : u.rd.length = 2 → u.i = 5 → P.length = 4 → Fg t u 2 4 true true true → u.fin = 0 → t.part = 6 → ph = 2 → t.made = s + 1 → s + 1 ≤ 1000 → oddB s = true → D4 m = 40 → 2 ≤ n → RSt s m ph P t u n
  | d7 : u.i = 5 → P.length = 4 → Fg t u 2 4 false true true → u.fin = 0 → t.part = 7 → ph = 2 → 1 ≤ n → RSt s m ph P t u n
  | un : Fg t u 3 5 false true true → u.fin = 0 → ph = 2 → 1 ≤ n → RSt s m ph P t u n
  | fin : t.took = false → t.job = 0 → u.fin ≠ 0 → ph = 0 → 0 ≤ n → RSt s m ph P t u n
section
variable {s s' ph n n' q c : Int} {m m' : Int → Int} {P : List OpZ} {t : TxS} {u : RunM}
theorem rdR_isD {a i c : Int} {rd : List (Int × Int)} (h : FarR P i rd a c) : ∀ e ∈ rdR rd, isD e.1 := by
  have z := fun (k : Int) (h0 : 0 ≤ k) (h4 : k < 4) => dA_is k h0 h4
  cases h with
  | r1 => simp [rdR]
  | r2 v0 => simp only [rdR, List.map_cons, List.map_nil, List.mem_singleton]; rintro e rfl; exact z 0 (by decide) (by decide)
  | r3 v0 v1 =>
    simp only [rdR, List.map_cons, List.map_nil, List.mem_cons, List.not_mem_nil, or_false]
    rintro e (rfl | rfl)
    · exact z 0 (by decide) (by decide)
    · exact z 1 (by decide) (by decide)
  | r4 v0 v1 v2 =>
    simp only [rdR, List.map_cons, List.map_nil, List.mem_cons, List.not_mem_nil, or_false]
    rintro e (rfl | rfl | rfl)
    · exact z 0 (by decide) (by decide)
    · exact z 1 (by decide) (by decide)
    · exact z 2 (by decide) (by decide)
  | m1 ok => simp [rdR]
  | m2 v ok => simp only [rdR, List.map_cons, List.map_nil, List.mem_singleton]; rintro e rfl; exact z _ ok.a0 ok.a4
theorem rdW_isD {W rd : List (Int × Int)} (h : FarW P rd W) : (∀ e ∈ rdR rd, isD e.1) ∧ (∀ e ∈ W, isD e.1) ∧ rd.length = 2 ∧ W.length = 2 ∧ P.length = 4 := by
  have z := fun (k : Int) (h0 : 0 ≤ k) (h4 : k < 4) => dA_is k h0 h4
  cases h with
  | mk v v' ok =>
    refine ⟨?_, ?_, rfl, rfl, rfl⟩
    · simp only [rdR, List.map_cons, List.map_nil, List.mem_cons, List.not_mem_nil, or_false]
      rintro e (rfl | rfl)
      · exact z _ ok.a0 ok.a4
      · exact z _ ok.b0 ok.b4
    · simp only [List.mem_cons, List.not_mem_nil, or_false]
      rintro e (rfl | rfl)
      · exact z _ ok.a0 ok.a4
      · exact z _ ok.b0 ok.b4
theorem FarR.le {i a : Int} {rd : List (Int × Int)} (h : FarR P i rd a c) : rd.length ≤ 3 ∧ ((rdR rd).length : Int) ≤ 3 ∧ 0 ≤ a ∧ a < 4 := by
  cases h with
  | r1 => decide
  | r2 v0 => exact ⟨by show 1 ≤ 3; decide, by show (1 : Int) ≤ 3; decide, by decide, by decide⟩
  | r3 v0 v1 => exact ⟨by show 2 ≤ 3; decide, by show (2 : Int) ≤ 3; decide, by decide, by decide⟩
  | r4 v0 v1 v2 => exact ⟨by show 3 ≤ 3; decide, by show (3 : Int) ≤ 3; decide, by decide, by decide⟩
  | m1 ok => exact ⟨by show 0 ≤ 3; decide, by show (0 : Int) ≤ 3; decide, ok.a0, ok.a4⟩
  | m2 v ok => exact ⟨by show 1 ≤ 3; decide, by show (1 : Int) ≤ 3; decide, ok.b0, ok.b4⟩
theorem rdR_len (rd : List (Int × Int)) : (rdR rd).length = rd.length := by simp [rdR]
/-- the words stand -/
theorem Snap.same (h : Snap s m t) (hm : ∀ p, isD p → m' p = m p) : Snap s m' t := by
  obtain ⟨C, c1, c2, c3⟩ := h.sn
  exact ⟨h.s0, h.s1, h.ev, C, c1, c2, fun e p hp => (c3 e p hp).trans (hm p hp).symm⟩
theorem Seek.same (h : Seek s m t q) (hR : ∀ e ∈ t.R, isD e.1) (hm : ∀ p, isD p → m' p = m p) : Seek s m' t q := by
  cases h with
  | p8 a b => exact .p8 a b
  | p9 j a b c d e f g g2 => exact .p9 j a b c d e f (fun z => ⟨fun l hl => by rw [hm _ (hR _ (by rw [getD_at _ _ _ (by omega)]; exact List.getElem_mem _))]; exact (g z).1 l hl, (g z).2⟩) g2
  | p10 a b c d e e2 => exact .p10 a b c d (fun z => ⟨fun x hx => by rw [hm _ (hR x hx)]; exact (e z).1 x hx, (e z).2⟩) e2
theorem RSt.same (h : RSt s m ph P t u n) (hm : ∀ p, isD p → m' p = m p) : RSt s m' ph P t u n := by
  cases h with
  | new c a1 a2 a3 a4 a5 a6 a7 => exact .new c a1 a2 a3 a4 a5 a6 a7
  | bg c a1 a2 a3 a4 a5 a6 a7 a8 a9 a10 => exact .bg c a1 a2 a3 a4 a5 a6 a7 a8 a9 a10
  | idR a c a1 a2 a3 a4 a5 a6 a7 a8 a9 => exact .idR a c a1 a2 a3 a4 a5 a6 (a7.same hm) a8 a9
  | idC c a1 a2 a3 a4 a5 a6 a7 a8 a9 => exact .idC c a1 a2 a3 a4 a5 a6 (a7.same hm) a8 a9
  | lk a c a1 a2 a3 a4 a5 a6 a7 a8 a9 =>
    have hR : ∀ e ∈ t.R, isD e.1 := by rw [a4]; exact rdR_isD a1
    have hpl : isD t.pl := by rw [a8]; exact dA_is _ a1.le.2.2.1 a1.le.2.2.2
    refine .lk a c a1 a2 a3 a4 a5 a6 (a7.same hm) a8 ?_
    cases a9 with
    | p0 b1 b2 b3 => exact .p0 b1 b2 b3
    | p1 b1 b2 b3 => exact .p1 b1 (fun z => ⟨by rw [hm _ hpl]; exact (b2 z).1, (b2 z).2⟩) b3
    | sk b => exact .sk (b.same hR hm)
  | cm a1 a2 a3 a4 a5 a6 a7 a8 a9 =>
    have hR : ∀ e ∈ t.R, isD e.1 := by rw [a5]; exact (rdW_isD a1).1
    refine .cm a1 a2 a3 a4 a5 a6 (a7.same hm) a8 ?_
    cases a9 with
    | p4 b1 b2 b3 => exact .p4 b1 b2 b3
    | sk b => exact .sk (b.same hR hm)
  | d5 k a1 a2 a3 a4 a5 a6 a7 a8 a9 a10 a11 a12 a13 a14 a15 a16 =>
    refine .d5 k a1 a2 a3 a4 a5 a6 a7 a8 a9 a10 a11 a12 a13 a14 (a15 ▸ D4_congr fun p hp => ?_) a16
    unfold after; rw [hm p hp]
  | d6 a1 a2 a3 a4 a5 a6 a7 a8 a9 a10 a11 a12 => exact .d6 a1 a2 a3 a4 a5 a6 a7 a8 a9 a10 ((D4_congr hm).trans a11) a12
  | d7 a1 a2 a3 a4 a5 a6 a7 => exact .d7 a1 a2 a3 a4 a5 a6 a7
  | un a1 a2 a3 a4 => exact .un a1 a2 a3 a4
  | fin a1 a2 a3 a4 a5 => exact .fin a1 a2 a3 a4 a5
theorem even_ne {z : Int} (h : oddB z = false) (hs : oddB s = true) : z ≠ s := by rintro rfl; rw [h] at hs; cases hs
/-- the sequence word is odd: whoever has not taken it sees nothing of what goes on, and no more when it goes on -/
theorem Snap.odd (h : Snap s m t) (hs : oddB s = true) (hle : s ≤ s') : Snap s' m' t := by
  obtain ⟨C, c1, c2, c3⟩ := h.sn
  have := even_ne h.ev hs
  have := h.s1
  exact ⟨h.s0, by omega, h.ev, C, c1, c2, fun e => by omega⟩
theorem Seek.odd (h : Seek s m t q) (hs : oddB s = true) (hle : s ≤ s') : Seek s' m' t q := by
  cases h with
  | p8 a b => exact .p8 a b
  | p9 j a b c d e f g g2 =>
    have := even_ne f hs
    exact .p9 j a b c d (by omega) f (fun z => by omega) (fun _ => g2 this)
  | p10 a b c d e e2 =>
    have := even_ne d hs
    exact .p10 a b (by omega) d (fun z => by omega) (fun _ => e2 this)
theorem RSt.odd (h : RSt s m ph P t u n) (ht : t.took = false) (hs : oddB s = true) (hle : s ≤ s') : RSt s' m' ph P t u n := by
  cases h with
  | new c a1 a2 a3 a4 a5 a6 a7 => exact .new c a1 a2 a3 a4 a5 a6 a7
  | bg c a1 a2 a3 a4 a5 a6 a7 a8 a9 a10 => exact .bg c a1 a2 a3 a4 a5 a6 a7 a8 a9 a10
  | idR a c a1 a2 a3 a4 a5 a6 a7 a8 a9 =>
    have := even_ne a7.ev hs
    have := a7.s1
    exact .idR a c a1 a2 a3 a4 a5 a6 (a7.odd hs hle) (fun z => by omega) (fun _ => a9 (by omega))
  | idC c a1 a2 a3 a4 a5 a6 a7 a8 a9 =>
    have := even_ne a7.ev hs
    have := a7.s1
    exact .idC c a1 a2 a3 a4 a5 a6 (a7.odd hs hle) (fun z => by omega) (fun _ => a9 (by omega))
  | lk a c a1 a2 a3 a4 a5 a6 a7 a8 a9 =>
    refine .lk a c a1 a2 a3 a4 a5 a6 (a7.odd hs hle) a8 ?_
    have := even_ne a7.ev hs
    have := a7.s1
    cases a9 with
    | p0 b1 b2 b3 => exact .p0 b1 (fun z => by omega) (fun _ => b3 (by omega))
    | p1 b1 b2 b3 => exact .p1 b1 (fun z => by omega) (fun _ => b3 (by omega))
    | sk b => exact .sk (b.odd hs hle)
  | cm a1 a2 a3 a4 a5 a6 a7 a8 a9 =>
    refine .cm a1 a2 a3 a4 a5 a6 (a7.odd hs hle) a8 ?_
    have := even_ne a7.ev hs
    have := a7.s1
    cases a9 with
    | p4 b1 b2 b3 => exact .p4 b1 (fun z => by omega) (fun _ => b3 (by omega))
    | sk b => exact .sk (b.odd hs hle)
  | d5 k a1 a2 a3 a4 a5 a6 a7 a8 a9 a10 a11 a12 a13 a14 a15 a16 => rw [a4.took] at ht; cases ht
  | d6 a1 a2 a3 a4 a5 a6 a7 a8 a9 a10 a11 a12 => rw [a4.took] at ht; cases ht
  | d7 a1 a2 a3 a4 a5 a6 a7 => exact .d7 a1 a2 a3 a4 a5 a6 a7
  | un a1 a2 a3 a4 => exact .un a1 a2 a3 a4
  | fin a1 a2 a3 a4 a5 => exact .fin a1 a2 a3 a4 a5
/-- another one takes the sequence word -/
theorem Snap.take (h : Snap s m t) (hs : s < s') : Snap s' m' t := by
  obtain ⟨C, c1, c2, c3⟩ := h.sn
  have := h.s1
  exact ⟨h.s0, by omega, h.ev, C, c1, c2, fun e => by omega⟩
theorem Seek.take (h : Seek s m t q) (hl : (t.R.length : Int) ≤ 3) (hs : s < s') : Seek s' m' t (q + 7) := by
  cases h with
  | p8 a b => exact .p8 a (by omega)
  | p9 j a b c d e f g g2 =>
    refine .p9 j a b c d (by omega) f (fun z => by omega) (fun _ => ?_)
    by_cases z : t.now = s
    · have := (g z).2; omega
    · have := g2 z; omega
  | p10 a b c d e e2 =>
    refine .p10 a b (by omega) d (fun z => by omega) (fun _ => ?_)
    by_cases z : t.now = s
    · have := (e z).2; omega
    · have := e2 z; omega
theorem RSt.take (h : RSt s m ph P t u n) (ht : t.took = false) (hs : s < s') : RSt s' m' ph P t u (n + 7) := by
  cases h with
  | new c a1 a2 a3 a4 a5 a6 a7 => exact .new c a1 a2 a3 a4 a5 a6 (by omega)
  | bg c a1 a2 a3 a4 a5 a6 a7 a8 a9 a10 => exact .bg c a1 a2 a3 a4 a5 a6 a7 a8 a9 (by omega)
  | idR a c a1 a2 a3 a4 a5 a6 a7 a8 a9 =>
    have := a7.s1
    have hl : (t.R.length : Int) ≤ 3 := by rw [a4]; exact a1.le.2.1
    refine .idR a c a1 a2 a3 a4 a5 a6 (a7.take hs) (fun z => by omega) (fun _ => ?_)
    by_cases z : t.stamp = s
    · have := a8 z; omega
    · have := a9 z; omega
  | idC c a1 a2 a3 a4 a5 a6 a7 a8 a9 =>
    have := a7.s1
    refine .idC c a1 a2 a3 a4 a5 a6 (a7.take hs) (fun z => by omega) (fun _ => ?_)
    by_cases z : t.stamp = s
    · have := a8 z; omega
    · have := a9 z; omega
  | lk a c a1 a2 a3 a4 a5 a6 a7 a8 a9 =>
    refine .lk a c a1 a2 a3 a4 a5 a6 (a7.take hs) a8 ?_
    have hl : (t.R.length : Int) ≤ 3 := by rw [a4]; exact a1.le.2.1
    have := a7.s1
    cases a9 with
    | p0 b1 b2 b3 =>
      refine .p0 b1 (fun z => by omega) (fun _ => ?_)
      by_cases z : t.stamp = s
      · have := b2 z; omega
      · have := b3 z; omega
    | p1 b1 b2 b3 =>
      refine .p1 b1 (fun z => by omega) (fun _ => ?_)
      by_cases z : t.stamp = s
      · have := (b2 z).2; omega
      · have := b3 z; omega
    | sk b =>
      have b2 := b.take (m' := m') hl hs
      exact .sk (by rw [show n + 7 - c = n - c + 7 by omega]; exact b2)
  | cm a1 a2 a3 a4 a5 a6 a7 a8 a9 =>
    refine .cm a1 a2 a3 a4 a5 a6 (a7.take hs) a8 ?_
    have hl : (t.R.length : Int) ≤ 3 := by rw [a5, rdR_len, (rdW_isD a1).2.2.1]; decide
    have := a7.s1
    cases a9 with
    | p4 b1 b2 b3 =>
      refine .p4 b1 (fun z => by omega) (fun _ => ?_)
      by_cases z : t.stamp = s
      · have := b2 z; omega
      · have := b3 z; omega
    | sk b =>
      have b2 := b.take (m' := m') hl hs
      exact .sk (by rw [show n + 7 - 19 = n - 19 + 7 by omega]; exact b2)
  | d5 k a1 a2 a3 a4 a5 a6 a7 a8 a9 a10 a11 a12 a13 a14 a15 a16 => rw [a4.took] at ht; cases ht
  | d6 a1 a2 a3 a4 a5 a6 a7 a8 a9 a10 a11 a12 => rw [a4.took] at ht; cases ht
  | d7 a1 a2 a3 a4 a5 a6 a7 => exact .d7 a1 a2 a3 a4 a5 a6 (by omega)
  | un a1 a2 a3 a4 => exact .un a1 a2 a3 (by omega)
  | fin a1 a2 a3 a4 a5 => exact .fin a1 a2 a3 a4 (by omega)
/-- more is enough -/
theorem Seek.mono (h : Seek s m t q) (hq : q ≤ n') : Seek s m t n' := by
  cases h with
  | p8 a b => exact .p8 a (by omega)
  | p9 j a b c d e f g g2 => exact .p9 j a b c d e f (fun z => ⟨(g z).1, by have := (g z).2; omega⟩) (fun z => by have := g2 z; omega)
  | p10 a b c d e e2 => exact .p10 a b c d (fun z => ⟨(e z).1, by have := (e z).2; omega⟩) (fun z => by have := e2 z; omega)
theorem Seek.q0 (h : Seek s m t q) : 1 ≤ q := by
  cases h with
  | p8 a b => omega
  | p9 j a b c d e f g g2 =>
    by_cases z : t.now = s
    · have := (g z).2; omega
    · have := g2 z; omega
  | p10 a b c d e e2 =>
    by_cases z : t.now = s
    · have := (e z).2; omega
    · have := e2 z; omega
/-- it needs no more than 28 -/
theorem Seek.cap (h : Seek s m t q) : Seek s m t (2 * (t.R.length : Int) + 3) := by
  cases h with
  | p8 a b => exact .p8 a (by omega)
  | p9 j a b c d e f g g2 => exact .p9 j a b c d e f (fun z => ⟨(g z).1, by omega⟩) (fun z => by omega)
  | p10 a b c d e e2 => exact .p10 a b c d (fun z => ⟨(e z).1, by omega⟩) (fun z => by omega)
theorem PK.cap (h : PK P c) : c ≤ 24 := by cases h <;> decide
theorem FarR.cap {i a : Int} {rd : List (Int × Int)} (h : FarR P i rd a c) : 2 * ((rdR rd).length : Int) + c ≤ 24 ∧ 0 ≤ c := by
  rw [rdR_len]
  cases h <;> exact ⟨by simp, by decide⟩
theorem FarC.cap {i : Int} {rd : List (Int × Int)} (h : FarC P i rd c) : c ≤ 20 ∧ 0 ≤ c := by cases h <;> decide
theorem RSt.cap (h : RSt s m ph P t u n) : RSt s m ph P t u 28 := by
  cases h with
  | new c a1 a2 a3 a4 a5 a6 a7 => exact .new c a1 a2 a3 a4 a5 a6 (by have := a1.cap; omega)
  | bg c a1 a2 a3 a4 a5 a6 a7 a8 a9 a10 => exact .bg c a1 a2 a3 a4 a5 a6 a7 a8 a9 (by have := a1.cap; omega)
  | idR a c a1 a2 a3 a4 a5 a6 a7 a8 a9 =>
    have hl := a1.cap
    rw [← a4] at hl
    exact .idR a c a1 a2 a3 a4 a5 a6 a7 (fun _ => by omega) (fun _ => by omega)
  | idC c a1 a2 a3 a4 a5 a6 a7 a8 a9 =>
    have hl := a1.cap
    exact .idC c a1 a2 a3 a4 a5 a6 a7 (fun _ => by omega) (fun _ => by omega)
  | lk a c a1 a2 a3 a4 a5 a6 a7 a8 a9 =>
    refine .lk a c a1 a2 a3 a4 a5 a6 a7 a8 ?_
    have hl := a1.cap
    rw [← a4] at hl
    cases a9 with
    | p0 b1 b2 b3 => exact .p0 b1 (fun _ => by omega) (fun _ => by omega)
    | p1 b1 b2 b3 => exact .p1 b1 (fun z => ⟨(b2 z).1, by omega⟩) (fun _ => by omega)
    | sk b => exact .sk (b.cap.mono (by omega))
  | cm a1 a2 a3 a4 a5 a6 a7 a8 a9 =>
    refine .cm a1 a2 a3 a4 a5 a6 a7 a8 ?_
    have hl : (t.R.length : Int) = 2 := by rw [a5, rdR_len, (rdW_isD a1).2.2.1]; rfl
    cases a9 with
    | p4 b1 b2 b3 => exact .p4 b1 (fun _ => by decide) (fun _ => by decide)
    | sk b => exact .sk (b.cap.mono (by omega))
  | d5 k a1 a2 a3 a4 a5 a6 a7 a8 a9 a10 a11 a12 a13 a14 a15 a16 => exact .d5 k a1 a2 a3 a4 a5 a6 a7 a8 a9 a10 a11 a12 a13 a14 a15 (by omega)
  | d6 a1 a2 a3 a4 a5 a6 a7 a8 a9 a10 a11 a12 => exact .d6 a1 a2 a3 a4 a5 a6 a7 a8 a9 a10 a11 (by decide)
  | d7 a1 a2 a3 a4 a5 a6 a7 => exact .d7 a1 a2 a3 a4 a5 a6 (by decide)
  | un a1 a2 a3 a4 => exact .un a1 a2 a3 (by decide)
  | fin a1 a2 a3 a4 a5 => exact .fin a1 a2 a3 a4 (by decide)
end
end Go.Proofs.Ytfmamedkiaimpaa
namespace Go.Proofs.Ytfmamedkiaimpaa
open Go.RowKit
theorem load_fun (M : MemS) (p : Int) : (M.loadI p).atP = M.atP := funext fun q => atP_L (loadI_L M p) q
theorem load_len (M : MemS) (p : Int) : (M.loadI p).L.length = M.L.length := by rw [loadI_L]
theorem odd_tab : (List.range 1003).all (fun n => oddB (n : Int) == (n % 2 == 1)) = true := by kernel_rfl
theorem odd_at {s : Int} (h0 : 0 ≤ s) (h1 : s ≤ 1002) : oddB s = decide (s % 2 = 1) := by
  obtain ⟨n, rfl⟩ : ∃ n : Nat, s = (n : Int) := ⟨s.toNat, by omega⟩
  have h := List.all_eq_true.1 odd_tab n (List.mem_range.2 (by omega))
  rw [eq_of_beq h]
  by_cases e : n % 2 = 1
  · rw [decide_eq_true (by omega)]; simpa using e
  · rw [decide_eq_false (by omega)]; simpa using e
theorem odd_up {s : Int} (h0 : 0 ≤ s) (h1 : s ≤ 1001) (h : oddB s = false) : oddB (s + 1) = true := by
  rw [odd_at h0 (by omega)] at h
  rw [odd_at (by omega) (by omega)]
  have := of_decide_eq_false h
  exact decide_eq_true (by omega)
theorem odd_dn {s : Int} (h0 : 0 ≤ s) (h1 : s ≤ 1001) (h : oddB s = true) : oddB (s + 1) = false := by
  rw [odd_at h0 (by omega)] at h
  rw [odd_at (by omega) (by omega)]
  have := of_decide_eq_true h
  exact decide_eq_false (by omega)
theorem dA_ne {a b : Int} (h : MvOk a b) : dA a ≠ dA b := by
  obtain ⟨z0, z1, z2, z3⟩ := dA_val
  have h0 := h.a0; have h1 := h.a4; have h2 := h.b0; have h3 := h.b4; have h4 := h.ne
  rcases (show a = 0 ∨ a = 1 ∨ a = 2 ∨ a = 3 by omega) with rfl | rfl | rfl | rfl <;>
  rcases (show b = 0 ∨ b = 1 ∨ b = 2 ∨ b = 3 by omega) with rfl | rfl | rfl | rfl <;>
  first
  | exact absurd rfl h4
  | (simp only [z0, z1, z2, z3]; decide)
section
variable {P : List OpZ} {i a c : Int} {rd : List (Int × Int)}
theorem FarR.key (h : FarR P i rd a c) : hasKey (rdR rd) (dA a) = false := by
  obtain ⟨z0, z1, z2, z3⟩ := dA_val
  cases h with
  | r1 => rfl
  | r2 v0 => simp [hasKey, rdR, z0, z1]
  | r3 v0 v1 => simp [hasKey, rdR, z0, z1, z2]
  | r4 v0 v1 v2 => simp [hasKey, rdR, z0, z1, z2, z3]
  | m1 ok => rfl
  | m2 v ok => simp [hasKey, rdR, dA_ne ok]
theorem FarR.next (h : FarR P i rd a c) (v : Int) : (∃ a', FarR P (i + 1) (rd ++ [(a, v)]) a' (c - 2)) ∨ FarC P (i + 1) (rd ++ [(a, v)]) (c - 2) := by
  cases h with
  | r1 => exact .inl ⟨_, .r2 v⟩
  | r2 v0 => exact .inl ⟨_, .r3 v0 v⟩
  | r3 v0 v1 => exact .inl ⟨_, .r4 v0 v1 v⟩
  | r4 v0 v1 v2 => exact .inr (.r5 v0 v1 v2 v)
  | m1 ok => exact .inl ⟨_, .m2 v ok⟩
  | m2 v0 ok => exact .inr (.m3 v0 v ok)
theorem FarR.plan (h : FarR P i rd a c) : P.length = 4 ∧ P.getD (i.toNat - 1) op0 = (0, a, 0) ∧ 1 ≤ i ∧ i ≤ 4 := by
  cases h with
  | r1 => exact ⟨rfl, rfl, by decide, by decide⟩
  | r2 v0 => exact ⟨rfl, rfl, by decide, by decide⟩
  | r3 v0 v1 => exact ⟨rfl, rfl, by decide, by decide⟩
  | r4 v0 v1 v2 => exact ⟨rfl, rfl, by decide, by decide⟩
  | m1 ok => exact ⟨rfl, rfl, by decide, by decide⟩
  | m2 v ok => exact ⟨rfl, rfl, by decide, by decide⟩
theorem PK.first (h : PK P c) : P.length = 4 ∧ ∃ a, FarR P 1 [] a c := by
  cases h with
  | r => exact ⟨rfl, _, .r1⟩
  | m ok => exact ⟨rfl, _, .m1 ok⟩
end
def rdSum (rd : List (Int × Int)) : Int := rd.foldl (fun z e => wrap64 (z + e.2)) 0
/-- the four were all there was -/
theorem FarR.sum {P : List OpZ} {i a c v : Int} {rd : List (Int × Int)} {C : Int → Int} (h : FarR P i rd a c) (hC : D4 C = 40) (hR : ∀ e ∈ rdR rd, C e.1 = e.2) (hv : C (dA a) = v) : (rd ++ [(a, v)]).length = 4 → rdSum (rd ++ [(a, v)]) = 40 := by
  obtain ⟨z0, z1, z2, z3⟩ := dA_val
  cases h with
  | r1 => intro e; exact absurd e (by show ¬ 1 = 4; decide)
  | r2 v0 => intro e; exact absurd e (by show ¬ 2 = 4; decide)
  | r3 v0 v1 => intro e; exact absurd e (by show ¬ 3 = 4; decide)
  | r4 v0 v1 v2 =>
    intro _
    have h0 := hR (dA 0, v0) (by simp [rdR])
    have h1 := hR (dA 1, v1) (by simp [rdR])
    have h2 := hR (dA 2, v2) (by simp [rdR])
    dsimp only at h0 h1 h2
    rw [z0] at h0; rw [z1] at h1; rw [z2] at h2; rw [z3] at hv
    unfold D4 at hC
    rw [h0, h1, h2, hv] at hC
    show wrap64 (wrap64 (wrap64 (wrap64 (0 + v0) + v1) + v2) + v) = 40
    rw [wrap64_eq] at hC
    simp only [wrap64_eq]
    omega
  | m1 ok => intro e; exact absurd e (by show ¬ 1 = 4; decide)
  | m2 v ok => intro e; exact absurd e (by show ¬ 2 = 4; decide)
/-- what is moved stays the same in sum -/
theorem FarW.sum {P : List OpZ} {rd W : List (Int × Int)} {m : Int → Int} (h : FarW P rd W) (hm : D4 m = 40) (hR : ∀ e ∈ rdR rd, m e.1 = e.2) : D4 (after m W) = 40 := by
  obtain ⟨z0, z1, z2, z3⟩ := dA_val
  cases h with
  | @mk a b x v v' ok =>
    have h1 := hR (dA a, v) (by simp [rdR])
    have h2 := hR (dA b, v') (by simp [rdR])
    dsimp only at h1 h2
    have k0 := ok.a0; have k1 := ok.a4; have k2 := ok.b0; have k3 := ok.b4; have k4 := ok.ne
    unfold D4 at hm
    rw [wrap64_eq] at hm
    unfold D4 after
    simp only [List.foldl_cons, List.foldl_nil]
    rcases (show a = 0 ∨ a = 1 ∨ a = 2 ∨ a = 3 by omega) with rfl | rfl | rfl | rfl <;>
    rcases (show b = 0 ∨ b = 1 ∨ b = 2 ∨ b = 3 by omega) with rfl | rfl | rfl | rfl <;>
    first
    | exact absurd rfl k4
    | (simp only [z0, z1, z2, z3] at h1 h2 ⊢
       simp
       simp only [wrap64_eq]
       omega)
structure Gl (k : Int) (M : MemS) : Prop where
  k : k = 0 ∨ k = 1 ∨ k = 2
  len : M.L.length = 34
  s0 : 0 ≤ M.atP 1
  s1 : M.atP 1 ≤ 1000
  ev : oddB (M.atP 1) = false → D4 M.atP = 40
theorem phA_k {k : Int} {M : MemS} (h : Gl k M) {t : TxS} (ht : t.th = k) : phA t = 11 + 2 * k := by
  unfold phA
  rw [ht]
  rcases h.k with rfl | rfl | rfl <;> kernel_rfl
inductive Did (s : Int) (m : Int → Int) (tk : Bool) (n : Int) (s' : Int) (m' : Int → Int) (tk' : Bool) (n' : Int) : Prop
  | wait : oddB s = true → tk = false → tk' = false → s' = s → (∀ p, isD p → m' p = m p) → n' ≤ n → Did s m tk n s' m' tk' n'
  | go : tk' = tk → s' = s → (∀ p, isD p → m' p = m p) → n' + 1 ≤ n → Did s m tk n s' m' tk' n'
  | take : oddB s = false → tk = false → tk' = true → s' = s + 1 → s' ≤ 1000 → oddB s' = true → (∀ p, isD p → m' p = m p) → n' + 15 ≤ n → Did s m tk n s' m' tk' n'
  | write : oddB s = true → tk = true → tk' = true → s' = s → n' + 1 ≤ n → Did s m tk n s' m' tk' n'
  | give : oddB s = true → tk = true → tk' = false → s' = s + 1 → s' ≤ 1000 → oddB s' = false → D4 m' = 40 → n' + 1 ≤ n → Did s m tk n s' m' tk' n'
def RdOk (u u' : RunM) : Prop := u'.rd = u.rd ∨ (u'.rd.length = 4 → rdSum u'.rd = 40)
def Own (k : Int) (P : List OpZ) (M : MemS) (t : TxS) (u : RunM) (n : Int) (z : MemS × TxS × RunM) : Prop :=
  ∃ n', Base k P z.2.1 z.2.2 ∧ RSt (z.1.atP 1) z.1.atP (z.1.atP (11 + 2 * k)) P z.2.1 z.2.2 n' ∧ Did (M.atP 1) M.atP t.took n (z.1.atP 1) z.1.atP z.2.1.took n' ∧ RdOk u z.2.2 ∧ (∀ p, p ≠ 1 → p ≠ 11 + 2 * k → ¬ isD p → z.1.atP p = M.atP p) ∧ z.1.L.length = 34
section
variable {k n n' : Int} {P : List OpZ} {M : MemS} {t t' : TxS} {u u' : RunM}
theorem own_load (hg : Gl k M) (p : Int) (hb : Base k P t' u') (h : RSt (M.atP 1) M.atP (M.atP (11 + 2 * k)) P t' u' n') (ht : t'.took = t.took) (hn : n' + 1 ≤ n) (hr : RdOk u u') : Own k P M t u n (M.loadI p, t', u') := by
  refine ⟨n', hb, ?_, .go ht ?_ ?_ hn, hr, ?_, (load_len M p).trans hg.len⟩
  · show RSt ((M.loadI p).atP 1) (M.loadI p).atP ((M.loadI p).atP _) P t' u' n'
    rw [load_fun]; exact h
  · show (M.loadI p).atP 1 = _
    rw [load_fun]
  · intro q _
    show (M.loadI p).atP q = _
    rw [load_fun]
  · intro q _ _ _
    show (M.loadI p).atP q = _
    rw [load_fun]
theorem own_wait (hg : Gl k M) (p : Int) (ho : oddB (M.atP 1) = true) (hb : Base k P t' u') (h : RSt (M.atP 1) M.atP (M.atP (11 + 2 * k)) P t' u' n) (h0 : t.took = false) (ht : t'.took = false) (hr : RdOk u u') : Own k P M t u n (M.loadI p, t', u') := by
  refine ⟨n, hb, ?_, .wait ho h0 ht ?_ ?_ (Int.le_refl _), hr, ?_, (load_len M p).trans hg.len⟩
  · show RSt ((M.loadI p).atP 1) (M.loadI p).atP ((M.loadI p).atP _) P t' u' n
    rw [load_fun]; exact h
  · show (M.loadI p).atP 1 = _
    rw [load_fun]
  · intro q _
    show (M.loadI p).atP q = _
    rw [load_fun]
  · intro q _ _ _
    show (M.loadI p).atP q = _
    rw [load_fun]
theorem isD_lo {p : Int} (h : isD p) : 26 ≤ p ∧ p ≤ 32 := by rcases h with e | e | e | e <;> omega
theorem own_phase (hg : Gl k M) (x : Int) (hb : Base k P t' u') (h : RSt (M.atP 1) M.atP x P t' u' n') (ht : t'.took = t.took) (hn : n' + 1 ≤ n) (hr : RdOk u u') : Own k P M t u n (M.storeI (11 + 2 * k) x, t', u') := by
  have hk : 11 ≤ 11 + 2 * k ∧ 11 + 2 * k ≤ 15 := by have := hg.k; omega
  have ha := fun q => store_atP M (11 + 2 * k) x q (by omega) (by rw [hg.len]; omega)
  have e1 : (M.storeI (11 + 2 * k) x).atP 1 = M.atP 1 := by rw [ha, if_neg (by omega)]
  have eD : ∀ p, isD p → (M.storeI (11 + 2 * k) x).atP p = M.atP p := fun p hp => by rw [ha, if_neg (by have := isD_lo hp; omega)]
  refine ⟨n', hb, ?_, .go ht e1 eD hn, hr, fun p h1 h2 h3 => ?_, (storeI_len _ _ _).trans hg.len⟩
  · show RSt ((M.storeI (11 + 2 * k) x).atP 1) (M.storeI (11 + 2 * k) x).atP ((M.storeI (11 + 2 * k) x).atP (11 + 2 * k)) P t' u' n'
    rw [e1, show (M.storeI (11 + 2 * k) x).atP (11 + 2 * k) = x by rw [ha, if_pos rfl]]
    exact h.same eD
  · show (M.storeI (11 + 2 * k) x).atP p = _
    rw [ha, if_neg h2]
theorem swapY (hg : Gl k M) (x : Int) : (∀ p, (M.swapI 1 (M.atP 1) x).atP p = if p = 1 then x else M.atP p) ∧ M.swapOk 1 (M.atP 1) = true := by
  have h1 : M.inR 1 = true := by unfold MemS.inR; rw [hg.len]; decide
  have h2 : M.word 1 = M.atP 1 := by unfold MemS.atP; rw [if_pos h1]; rfl
  have ho : M.swapOk 1 (M.atP 1) = true := by unfold MemS.swapOk; rw [h1]; simpa using h2
  refine ⟨fun p => set_atP M 1 x p (by decide) (by rw [hg.len]; decide) (M.swapI 1 (M.atP 1) x) ?_, ho⟩
  unfold MemS.swapI
  rw [if_pos h1]
  unfold MemS.swap
  dsimp only
  rw [if_pos (by simpa using h2)]
theorem swapN (hg : Gl k M) (y x : Int) (h : y ≠ M.atP 1) : (M.swapI 1 y x).L = M.L ∧ M.swapOk 1 y = false := by
  have h1 : M.inR 1 = true := by unfold MemS.inR; rw [hg.len]; decide
  have h2 : M.word 1 = M.atP 1 := by unfold MemS.atP; rw [if_pos h1]; rfl
  have h3 : M.word 1 ≠ y := fun e => h (e.symm.trans h2)
  refine ⟨?_, by unfold MemS.swapOk; rw [h1]; simpa using h3⟩
  unfold MemS.swapI
  rw [if_pos h1]
  unfold MemS.swap
  dsimp only
  rw [if_neg (by simpa using h3)]
theorem own_swapno (hg : Gl k M) (y x : Int) (hy : y ≠ M.atP 1) (hb : Base k P t' u') (h : RSt (M.atP 1) M.atP (M.atP (11 + 2 * k)) P t' u' n') (ht : t'.took = t.took) (hn : n' + 1 ≤ n) (hr : RdOk u u') : Own k P M t u n (M.swapI 1 y x, t', u') := by
  have e : (M.swapI 1 y x).atP = M.atP := funext fun q => atP_L (swapN hg y x hy).1 q
  refine ⟨n', hb, ?_, .go ht ?_ ?_ hn, hr, ?_, (swapI_len _ _ _ _).trans hg.len⟩
  · show RSt ((M.swapI 1 y x).atP 1) (M.swapI 1 y x).atP ((M.swapI 1 y x).atP _) P t' u' n'
    rw [e]; exact h
  · show (M.swapI 1 y x).atP 1 = _
    rw [e]
  · intro q _
    show (M.swapI 1 y x).atP q = _
    rw [e]
  · intro q _ _ _
    show (M.swapI 1 y x).atP q = _
    rw [e]
end
end Go.Proofs.Ytfmamedkiaimpaa
namespace Go.Proofs.Ytfmamedkiaimpaa
open Go.RowKit
section
variable {k n c a : Int} {P : List OpZ} {M : MemS} {t : TxS} {u : RunM}
theorem st_bg (hg : Gl k M) (hb : Base k P t u) (a1 : PK P c) (a2 : Fg t u 1 1 false false true) (a3 : u.fin = 0) (a4 : u.i = 0) (a5 : u.rd = []) (a6 : t.R = []) (a7 : t.W = []) (a8 : t.part = 0) (a9 : M.atP (11 + 2 * k) = 0) (a10 : c + 1 ≤ n) : Own k P M t u n (stepU M t u) := by
  have e0 := stepX_bg (M := M) a2.job a8
  cases ho : oddB (M.atP 1) with
  | true =>
    rw [ho] at e0
    rw [stepU_c0 e0]
    exact own_wait hg 1 ho hb (.bg c a1 a2 a3 a4 a5 a6 a7 a8 a9 a10) a2.took a2.took (.inl rfl)
  | false =>
    rw [ho] at e0
    rw [stepU_c1 e0]
    obtain ⟨hl, a, hf⟩ := a1.first
    have e : doneU u (doneT { t with stamp := M.atP 1 }).value = { u with busy := false, i := u.i + 1 } := by
      unfold doneU
      rw [if_neg (by rw [hb.hP, hl, a4]; decide), if_neg (by rw [a4]; rintro ⟨h, _⟩; exact absurd h (by decide))]
    rw [e]
    have hz : u.i + 1 = 1 := by rw [a4]; rfl
    refine own_load hg 1 ⟨hb.hP, hb.hV, hb.th, hb.top⟩ (.idR (n := c) a c ?_ ⟨a2.life, rfl, a2.took, a2.phased, rfl⟩ a3 ?_ a7 a9 ⟨hg.s0, Int.le_refl _, ho, M.atP, hg.ev ho, ?_, fun _ _ _ => rfl⟩ (fun _ => Int.le_refl _) (fun z => absurd rfl z)) rfl (by omega) (.inl rfl)
    · show FarR P (u.i + 1) u.rd a c
      rw [hz, a5]; exact hf
    · show t.R = rdR u.rd
      rw [a6, a5]; rfl
    · show ∀ e ∈ t.R, _
      rw [a6]; simp
/-- looking through: it waits, goes on, is through, or is aborted -/
theorem st_seek (hg : Gl k M) {q : Int} (hV : t.V = []) (hR : ∀ e ∈ t.R, isD e.1) (h : Seek (M.atP 1) M.atP t q) :
    (∃ p, oddB (M.atP 1) = true ∧ seeksT M t = (M.loadI p, { t with now := M.atP 1 }, 0) ∧ Seek (M.atP 1) M.atP { t with now := M.atP 1 } q) ∨
    (∃ p part i now, seeksT M t = (M.loadI p, { t with part := part, i := i, now := now }, 0) ∧ Seek (M.atP 1) M.atP { t with part := part, i := i, now := now } (q - 1)) ∨
    (∃ p, seeksT M t = (M.loadI p, foundT { t with part := 11, i := 0, stamp := t.now }) ∧ t.now = M.atP 1 ∧ (∀ e ∈ t.R, M.atP e.1 = e.2) ∧ 0 ≤ t.now ∧ oddB t.now = false) ∨
    (∃ p, seeksT M t = (M.loadI p, abortT t 2)) := by
  cases h with
  | p8 h8 hq =>
    have e0 : seeksT M t = (M.loadI 1, if oddB (M.atP 1) then ({ t with now := M.atP 1 }, 0) else seekEnd { t with now := M.atP 1, part := 9, i := 0 }) := by
      unfold seeksT; rw [if_pos h8]
    cases ho : oddB (M.atP 1) with
    | true =>
      rw [ho] at e0
      exact .inl ⟨1, rfl, e0, .p8 h8 hq⟩
    | false =>
      rw [ho] at e0
      right; left
      by_cases hr : t.R = []
      · have e1 : seekEnd { t with now := M.atP 1, part := 9, i := 0 } = ({ t with part := 10, i := 0, now := M.atP 1 }, 0) := by
          unfold seekEnd
          rw [if_pos rfl, if_pos (by show (t.R.length : Int) ≤ 0; rw [hr]; decide)]
        refine ⟨1, 10, 0, M.atP 1, e0.trans (congrArg (Prod.mk (M.loadI 1)) e1), .p10 rfl hg.s0 (Int.le_refl _) ho (fun _ => ⟨?_, by omega⟩) (fun z => absurd rfl z)⟩
        show ∀ e ∈ t.R, _
        rw [hr]; simp
      · have hl : 0 < t.R.length := List.length_pos_iff.2 hr
        have e1 : seekEnd { t with now := M.atP 1, part := 9, i := 0 } = ({ t with part := 9, i := 0, now := M.atP 1 }, 0) := by
          unfold seekEnd
          rw [if_pos rfl, if_neg (by show ¬ (t.R.length : Int) ≤ 0; omega)]
        exact ⟨1, 9, 0, M.atP 1, e0.trans (congrArg (Prod.mk (M.loadI 1)) e1), .p9 0 rfl rfl hl hg.s0 (Int.le_refl _) ho (fun _ => ⟨fun l hl => absurd hl (by omega), by show (t.R.length : Int) - 0 + 1 ≤ q - 1; omega⟩) (fun z => absurd rfl z)⟩
  | p9 j h9 hi hj h0 h1 ho g g2 =>
    have e0 : seeksT M t = (M.loadI (t.R.getD t.i.toNat (0, 0)).1, if M.atP (t.R.getD t.i.toNat (0, 0)).1 = (t.R.getD t.i.toNat (0, 0)).2 then seekEnd { t with i := t.i + 1 } else abortT t 2) := by
      unfold seeksT; rw [if_neg (by rw [h9]; decide), if_pos h9]
    have hjn : t.i.toNat = j := by omega
    by_cases hm : M.atP (t.R.getD t.i.toNat (0, 0)).1 = (t.R.getD t.i.toNat (0, 0)).2
    · rw [if_pos hm] at e0
      rw [hjn] at hm
      right; left
      by_cases hl : j + 1 = t.R.length
      · have e1 : seekEnd { t with i := t.i + 1 } = ({ t with part := 10, i := t.i + 1, now := t.now }, 0) := by
          unfold seekEnd
          rw [if_pos (show ({ t with i := t.i + 1 } : TxS).part = 9 from h9), if_pos (by show (t.R.length : Int) ≤ t.i + 1; omega)]
        refine ⟨_, 10, t.i + 1, t.now, e0.trans (congrArg (Prod.mk _) e1), .p10 rfl h0 h1 ho (fun z => ⟨fun e he => ?_, by have := (g z).2; omega⟩) (fun z => by have := g2 z; show (t.R.length : Int) + 3 ≤ q - 1; omega)⟩
        obtain ⟨l, hlt, hle⟩ := List.mem_iff_getElem.1 (show e ∈ t.R from he)
        have hD : t.R.getD l (0, 0) = e := by rw [getD_at _ _ _ hlt, hle]
        by_cases hlj : l < j
        · have := (g z).1 l hlj
          rw [hD] at this; exact this
        · obtain rfl : l = j := by omega
          rw [hD] at hm; exact hm
      · have e1 : seekEnd { t with i := t.i + 1 } = ({ t with part := 9, i := t.i + 1, now := t.now }, 0) := by
          unfold seekEnd
          rw [if_pos (show ({ t with i := t.i + 1 } : TxS).part = 9 from h9), if_neg (by show ¬ (t.R.length : Int) ≤ t.i + 1; omega)]
          rw [← h9]
        refine ⟨_, 9, t.i + 1, t.now, e0.trans (congrArg (Prod.mk _) e1), .p9 (j + 1) rfl (by show t.i + 1 = _; omega) (by show j + 1 < t.R.length; omega) h0 h1 ho (fun z => ⟨fun l hl => ?_, by have := (g z).2; show (t.R.length : Int) - (t.i + 1) + 1 ≤ q - 1; omega⟩) (fun z => by have := g2 z; show 2 * (t.R.length : Int) - (t.i + 1) + 3 ≤ q - 1; omega)⟩
        by_cases hlj : l < j
        · exact (g z).1 l hlj
        · obtain rfl : l = j := by omega
          exact hm
    · rw [if_neg hm] at e0
      exact .inr (.inr (.inr ⟨_, e0⟩))
  | p10 h10 h0 h1 ho g g2 =>
    have e0 : seeksT M t = (M.loadI 1, if M.atP 1 = t.now then seekEnd { t with part := 11, i := 0 } else ({ t with part := 8 }, 0)) := by
      unfold seeksT; rw [if_neg (by rw [h10]; decide), if_neg (by rw [h10]; decide), if_pos h10]
    by_cases hn : t.now = M.atP 1
    · rw [if_pos hn.symm] at e0
      have e1 : seekEnd { t with part := 11, i := 0 } = foundT { t with part := 11, i := 0, stamp := t.now } := by
        unfold seekEnd
        rw [if_neg (show ¬ (11 : Int) = 9 by decide), if_neg (by show ¬ (0 : Int) < t.V.length; rw [hV]; decide)]
      exact .inr (.inr (.inl ⟨1, e0.trans (congrArg (Prod.mk _) e1), hn, (g hn).1, h0, ho⟩))
    · rw [if_neg (fun z => hn z.symm)] at e0
      exact .inr (.inl ⟨1, 8, t.i, t.now, e0, .p8 rfl (by have := g2 hn; show (t.R.length : Int) + 2 ≤ q - 1; omega)⟩)
theorem stepX_seek (hj : t.job = 2 ∨ t.job = 4) (hp : 8 ≤ t.part) : stepX M t = seeksT M t := by
  unfold stepX; rw [if_neg (by omega), if_neg (by omega), if_pos hp]
theorem Seek.ge {s q : Int} {m : Int → Int} (h : Seek s m t q) : 8 ≤ t.part := by cases h <;> omega
/-- aborted while it reads: at its end -/
theorem abort_lk {ca : Int} (h1 : t.took = false) (h2 : t.phased = false) : abortT t ca = ({ t with i := 0, life := 3, cause := ca, made := 0, job := 0, part := 0 }, 2) := by
  unfold abortT undoneT; rw [if_neg (by show ¬ (t.took || t.phased) = true; rw [h1, h2]; decide)]
theorem abort_cm {ca : Int} (h2 : t.phased = true) : abortT t ca = ({ t with i := 0, life := 3, cause := ca, made := 0, job := 5, part := 0 }, 0) := by
  unfold abortT undoneT; rw [if_pos (by show (t.took || t.phased) = true; rw [h2]; simp)]
theorem st_lk (hg : Gl k M) (hb : Base k P t u) (a1 : FarR P u.i u.rd a c) (a2 : Fg t u 1 2 false false true) (a3 : u.fin = 0) (a4 : t.R = rdR u.rd) (a5 : t.W = []) (a6 : M.atP (11 + 2 * k) = 0) (a7 : Snap (M.atP 1) M.atP t) (a8 : t.pl = dA a) (a9 : Look (M.atP 1) M.atP t c n) : Own k P M t u n (stepU M t u) := by
  have hR : ∀ e ∈ t.R, isD e.1 := by rw [a4]; exact rdR_isD a1
  obtain ⟨hl, hpl, hi1, hi4⟩ := a1.plan
  have hcap := a1.cap
  have hdone : ∀ v, doneU u v = { u with busy := false, rd := u.rd ++ [(a, v)], i := u.i + 1 } := fun v => by
    unfold doneU
    rw [if_neg (by rw [hb.hP, hl]; omega), hb.hP, hpl, if_pos ⟨by omega, rfl⟩]
  cases a9 with
  | p0 h0 g g2 =>
    have e : stepX M t = (M.loadI t.pl, ({ t with val := M.atP t.pl, part := 1 }, 0)) := by
      rw [stepX_look a2.job (by rw [h0]; decide)]; unfold lookT; rw [if_pos h0]
    rw [stepU_c0 e]
    exact own_load (n' := n - 1) hg _ ⟨hb.hP, hb.hV, hb.th, hb.top⟩ (.lk a c a1 ⟨a2.life, a2.job, a2.took, a2.phased, a2.busy⟩ a3 a4 a5 a6 ⟨a7.s0, a7.s1, a7.ev, a7.sn⟩ a8 (.p1 rfl (fun z => ⟨rfl, by have := g z; omega⟩) (fun z => by have := g2 z; show (t.R.length : Int) + 3 + c ≤ n - 1; omega))) rfl (by omega) (.inl rfl)
  | p1 h1 g g2 =>
    have e0 : stepX M t = (M.loadI 1, if M.atP 1 = t.stamp then lookEnd { t with part := 2, i := 0 } else ({ t with part := 8 }, 0)) := by
      rw [stepX_look a2.job (by rw [h1]; decide)]; unfold lookT; rw [if_neg (by rw [h1]; decide), if_pos h1]
    by_cases hs : t.stamp = M.atP 1
    · obtain ⟨gv, gn⟩ := g hs
      have e1 : lookEnd { t with part := 2, i := 0 } = (doneT { t with part := 2, i := 0, value := t.val, R := putL 32 t.R t.pl t.val }, 1) := by
        unfold lookEnd; rw [if_neg (by show ¬ (0 : Int) < t.V.length; rw [hb.hV]; decide)]
      rw [if_pos hs.symm, e1] at e0
      rw [stepU_c1 e0]
      have hp : putL 32 t.R t.pl t.val = rdR (u.rd ++ [(a, t.val)]) := by
        unfold putL
        rw [a8, a4, a1.key, if_neg (by decide), if_pos (by have := a1.le; omega)]
        simp [rdR]
      obtain ⟨C, c1, c2, c3⟩ := a7.sn
      have hCv : C (dA a) = t.val := by rw [c3 hs _ (dA_is _ a1.le.2.2.1 a1.le.2.2.2), gv, a8]
      have hsn : Snap (M.atP 1) M.atP (doneT { t with part := 2, i := 0, value := t.val, R := putL 32 t.R t.pl t.val }) := by
        refine ⟨a7.s0, a7.s1, a7.ev, C, c1, ?_, c3⟩
        show ∀ e ∈ putL 32 t.R t.pl t.val, _
        rw [hp]
        intro e he
        have he : e ∈ rdR u.rd ++ [(dA a, t.val)] := by simpa [rdR] using he
        rcases List.mem_append.1 he with h | h
        · rw [← a4] at h; exact c2 e h
        · rw [List.mem_singleton.1 h]; exact hCv
      rw [show (doneT { t with part := 2, i := 0, value := t.val, R := putL 32 t.R t.pl t.val }).value = t.val from rfl, hdone]
      have hrd : RdOk u { u with busy := false, rd := u.rd ++ [(a, t.val)], i := u.i + 1 } := .inr (a1.sum c1 (by rw [← a4]; exact c2) hCv)
      rcases a1.next t.val with ⟨a', hf⟩ | hf
      · exact own_load (n' := c - 2) hg 1 ⟨hb.hP, hb.hV, hb.th, hb.top⟩ (.idR a' (c - 2) hf ⟨a2.life, rfl, a2.took, a2.phased, rfl⟩ a3 hp a5 a6 hsn (fun _ => Int.le_refl _) (fun z => absurd hs z)) rfl (by omega) hrd
      · exact own_load (n' := c - 2) hg 1 ⟨hb.hP, hb.hV, hb.th, hb.top⟩ (.idC (c - 2) hf ⟨a2.life, rfl, a2.took, a2.phased, rfl⟩ a3 hp a5 a6 hsn (fun _ => Int.le_refl _) (fun z => absurd hs z)) rfl (by omega) hrd
    · rw [if_neg (fun z => hs z.symm)] at e0
      rw [stepU_c0 e0]
      exact own_load (n' := n - 1) hg 1 ⟨hb.hP, hb.hV, hb.th, hb.top⟩ (.lk a c a1 ⟨a2.life, a2.job, a2.took, a2.phased, a2.busy⟩ a3 a4 a5 a6 ⟨a7.s0, a7.s1, a7.ev, a7.sn⟩ a8 (.sk (.p8 rfl (by have := g2 hs; show (t.R.length : Int) + 2 ≤ n - 1 - c; omega)))) rfl (by omega) (.inl rfl)
  | sk h =>
    have hq := h.q0
    have e0 : stepX M t = seeksT M t := stepX_seek (.inl a2.job) h.ge
    rcases st_seek hg hb.hV hR h with ⟨p, ho, e, h'⟩ | ⟨p, part, i, now, e, h'⟩ | ⟨p, e, e1, e2, e3, e4⟩ | ⟨p, e⟩
    · rw [stepU_c0 (e0.trans e)]
      exact own_wait hg p ho ⟨hb.hP, hb.hV, hb.th, hb.top⟩ (.lk a c a1 ⟨a2.life, a2.job, a2.took, a2.phased, a2.busy⟩ a3 a4 a5 a6 ⟨a7.s0, a7.s1, a7.ev, a7.sn⟩ a8 (.sk h')) a2.took a2.took (.inl rfl)
    · rw [stepU_c0 (e0.trans e)]
      refine own_load (n' := n - 1) hg p ⟨hb.hP, hb.hV, hb.th, hb.top⟩ (.lk a c a1 ⟨a2.life, a2.job, a2.took, a2.phased, a2.busy⟩ a3 a4 a5 a6 ⟨a7.s0, a7.s1, a7.ev, a7.sn⟩ a8 (.sk ?_)) rfl (by omega) (.inl rfl)
      rw [show n - 1 - c = n - c - 1 by omega]; exact h'
    · have ef : foundT { t with part := 11, i := 0, stamp := t.now } = ({ t with part := 0, i := 0, stamp := t.now }, 0) := by
        unfold foundT
        rw [if_neg (by show ¬ t.job = 3; rw [a2.job]; decide), if_neg (by show ¬ t.job = 4; rw [a2.job]; decide)]
      rw [ef] at e
      rw [stepU_c0 (e0.trans e)]
      exact own_load (n' := n - 1) hg p ⟨hb.hP, hb.hV, hb.th, hb.top⟩ (.lk a c a1 ⟨a2.life, a2.job, a2.took, a2.phased, a2.busy⟩ a3 a4 a5 a6 ⟨e3, by rw [← e1]; exact Int.le_refl _, e4, M.atP, hg.ev (by rw [← e1]; exact e4), e2, fun _ _ _ => rfl⟩ a8 (.p0 rfl (fun _ => by omega) (fun z => absurd e1 z))) rfl (by omega) (.inl rfl)
    · rw [abort_lk a2.took a2.phased] at e
      rw [stepU_c2 (e0.trans e)]
      exact own_load (n' := 0) hg p ⟨hb.hP, hb.hV, hb.th, hb.top⟩ (.fin a2.took rfl (by show ¬ (2 : Int) = 0; decide) a6 (Int.le_refl _)) rfl (by omega) (.inl rfl)
theorem st_un (hg : Gl k M) (hb : Base k P t u) (a1 : Fg t u 3 5 false true true) (a2 : u.fin = 0) (a4 : 1 ≤ n) : Own k P M t u n (stepU M t u) := by
  have e : stepX M t = (M.storeI (11 + 2 * k) 0, ({ t with phased := false, job := 0 }, 2)) := by
    rw [stepX_undo a1.job]; unfold undoT; rw [if_neg (by rw [a1.took]; decide), phA_k hg hb.th]; unfold undoneT; rw [if_neg (by show ¬ (t.took || false) = true; rw [a1.took]; decide)]
  rw [stepU_c2 e]
  exact own_phase (n' := 0) hg 0 ⟨hb.hP, hb.hV, hb.th, hb.top⟩ (.fin a1.took rfl (by show ¬ (2 : Int) = 0; decide) rfl (Int.le_refl _)) rfl (by omega) (.inl rfl)
theorem st_d7 (hg : Gl k M) (hb : Base k P t u) (a1 : u.i = 5) (a2 : P.length = 4) (a3 : Fg t u 2 4 false true true) (a5 : t.part = 7) (a7 : 1 ≤ n) : Own k P M t u n (stepU M t u) := by
  obtain ⟨t', he, h1, h2, h3, h4, h5⟩ : ∃ t', (doneT (if (0 : Int) < t.W.length then { t with phased := false, stamp := t.made } else { t with phased := false })) = t' ∧ t'.took = false ∧ t'.job = 0 ∧ t'.V = [] ∧ t'.th = k ∧ t'.top = 1000 := by
    refine ⟨_, rfl, ?_⟩
    split <;> exact ⟨a3.took, rfl, hb.hV, hb.th, hb.top⟩
  have e0 : stepX M t = (M.storeI (11 + 2 * k) 0, (t', 1)) := by
    rw [stepX_commit a3.job (by rw [a5]; decide)]; unfold commitT
    rw [if_neg (by rw [a5]; decide), if_neg (by rw [a5]; decide), if_neg (by rw [a5]; decide), if_neg (by rw [a5]; decide), if_neg (by rw [a5]; decide), phA_k hg hb.th, he]
  rw [stepU_c1 e0, done_end _ (by rw [hb.hP, a1, a2]; decide)]
  exact own_phase (n' := 0) hg 0 ⟨hb.hP, h3, h4, h5⟩ (.fin h1 h2 (by show ¬ (1 : Int) = 0; decide) rfl (Int.le_refl _)) (h1.trans a3.took.symm) (by omega) (.inl rfl)
theorem st_d6 (hg : Gl k M) (hb : Base k P t u) (a2 : u.i = 5) (a3 : P.length = 4) (a4 : Fg t u 2 4 true true true) (a5 : u.fin = 0) (a6 : t.part = 6) (a7 : M.atP (11 + 2 * k) = 2) (a8 : t.made = M.atP 1 + 1) (a9 : M.atP 1 + 1 ≤ 1000) (a10 : oddB (M.atP 1) = true) (a11 : D4 M.atP = 40) (a12 : 2 ≤ n) : Own k P M t u n (stepU M t u) := by
  have e0 : stepX M t = (M.storeI 1 (M.atP 1 + 1), ({ t with took := false, part := 7 }, 0)) := by
    rw [stepX_commit a4.job (by rw [a6]; decide)]; unfold commitT
    rw [if_neg (by rw [a6]; decide), if_neg (by rw [a6]; decide), if_neg (by rw [a6]; decide), if_neg (by rw [a6]; decide), if_pos a6, a8]
    rfl
  rw [stepU_c0 e0]
  have ha := fun q => store_atP M 1 (M.atP 1 + 1) q (by decide) (by rw [hg.len]; decide)
  have e1 : (M.storeI 1 (M.atP 1 + 1)).atP 1 = M.atP 1 + 1 := by rw [ha, if_pos rfl]
  have eD : ∀ p, isD p → (M.storeI 1 (M.atP 1 + 1)).atP p = M.atP p := fun p hp => by rw [ha, if_neg (by have := isD_lo hp; omega)]
  have hk := hg.k
  have eP : (M.storeI 1 (M.atP 1 + 1)).atP (11 + 2 * k) = 2 := by rw [ha, if_neg (by omega), a7]
  refine ⟨1, ⟨hb.hP, hb.hV, hb.th, hb.top⟩, .d7 a2 a3 ⟨a4.life, a4.job, rfl, a4.phased, a4.busy⟩ a5 rfl eP (Int.le_refl _), .give a10 a4.took rfl e1 (by show (M.storeI 1 (M.atP 1 + 1)).atP 1 ≤ 1000; omega) ?_ ((D4_congr eD).trans a11) (by omega), .inl rfl, fun p h1 h2 h3 => ?_, (storeI_len _ _ _).trans hg.len⟩
  · show oddB ((M.storeI 1 (M.atP 1 + 1)).atP 1) = false
    rw [e1]; exact odd_dn hg.s0 (by omega) a10
  · show (M.storeI 1 (M.atP 1 + 1)).atP p = _
    rw [ha, if_neg h1]
theorem after_cons (m : Int → Int) (e : Int × Int) (W : List (Int × Int)) : after m (e :: W) = after (fun p => if p = e.1 then e.2 else m p) W := by
  funext p
  show W.foldl _ (if e.1 = p then e.2 else m p) = W.foldl _ (if p = e.1 then e.2 else m p)
  by_cases h : e.1 = p
  · rw [if_pos h, if_pos h.symm]
  · rw [if_neg h, if_neg (fun z => h z.symm)]
theorem st_d5 (hg : Gl k M) (hb : Base k P t u) {j : Nat} (a1 : u.rd.length = 2) (a2 : u.i = 5) (a3 : P.length = 4) (a4 : Fg t u 2 4 true true true) (a5 : u.fin = 0) (a6 : t.part = 5) (a7 : M.atP (11 + 2 * k) = 2) (a8 : t.W.length = 2) (a9 : t.i = (j : Int)) (a10 : j < 2) (a11 : t.made = M.atP 1 + 1) (a12 : M.atP 1 + 1 ≤ 1000) (a13 : oddB (M.atP 1) = true) (a14 : ∀ e ∈ t.W, isD e.1) (a15 : D4 (after M.atP (t.W.drop j)) = 40) (a16 : 4 - (j : Int) ≤ n) : Own k P M t u n (stepU M t u) := by
  obtain ⟨q, hq⟩ : ∃ q, t.W.getD j (0, 0) = q := ⟨_, rfl⟩
  have hjl : j < t.W.length := by omega
  have hgq : t.W[j] = q := by rw [← hq, getD_at _ _ _ hjl]
  have hqD : isD q.1 := a14 q (by rw [← hgq]; exact List.getElem_mem hjl)
  have hlo := isD_lo hqD
  have e0 : stepX M t = (M.storeI q.1 q.2, (settleT { t with i := t.i + 1 }, 0)) := by
    rw [stepX_commit a4.job (by rw [a6]; decide)]; unfold commitT
    rw [if_neg (by rw [a6]; decide), if_neg (by rw [a6]; decide), if_neg (by rw [a6]; decide), if_pos a6, show t.i.toNat = j by omega, hq]
  rw [stepU_c0 e0]
  have hk := hg.k
  have ha := fun p => store_atP M q.1 q.2 p (by omega) (by rw [hg.len]; omega)
  have e1 : (M.storeI q.1 q.2).atP 1 = M.atP 1 := by rw [ha, if_neg (by omega)]
  have eP : (M.storeI q.1 q.2).atP (11 + 2 * k) = 2 := by rw [ha, if_neg (by omega), a7]
  have hfun : (M.storeI q.1 q.2).atP = fun p => if p = q.1 then q.2 else M.atP p := funext ha
  have hdr : t.W.drop j = q :: t.W.drop (j + 1) := by rw [List.drop_eq_getElem_cons hjl, hgq]
  rw [hdr, after_cons, ← hfun] at a15
  have hoth : ∀ p, p ≠ 1 → p ≠ 11 + 2 * k → ¬ isD p → (M.storeI q.1 q.2).atP p = M.atP p := fun p h1 h2 h3 => by rw [ha, if_neg (by rintro rfl; exact h3 hqD)]
  have hs : settleT { t with i := t.i + 1 } = if j + 1 < 2 then { t with i := t.i + 1 } else { t with i := t.i + 1, part := 6 } := by
    unfold settleT
    rw [if_neg (by show ¬ t.part = 2; rw [a6]; decide), if_pos (show ({ t with i := t.i + 1 } : TxS).part = 5 from a6)]
    by_cases hl : j + 1 < 2
    · rw [if_pos (by show t.i + 1 < (t.W.length : Int); omega), if_pos hl]
    · rw [if_neg (by show ¬ t.i + 1 < (t.W.length : Int); omega), if_neg hl]
      show { t with i := t.i + 1, part := if t.took then (6 : Int) else 7 } = _
      rw [a4.took]; rfl
  rw [hs]
  by_cases hl : j + 1 < 2
  · rw [if_pos hl]
    refine ⟨n - 1, ⟨hb.hP, hb.hV, hb.th, hb.top⟩, ?_, .write a13 a4.took a4.took e1 (by omega), .inl rfl, hoth, (storeI_len _ _ _).trans hg.len⟩
    show RSt ((M.storeI q.1 q.2).atP 1) (M.storeI q.1 q.2).atP ((M.storeI q.1 q.2).atP (11 + 2 * k)) P { t with i := t.i + 1 } u (n - 1)
    rw [e1, eP]
    exact .d5 (j + 1) a1 a2 a3 ⟨a4.life, a4.job, a4.took, a4.phased, a4.busy⟩ a5 a6 rfl a8 (by show t.i + 1 = _; omega) hl a11 a12 a13 a14 a15 (by omega)
  · rw [if_neg hl]
    refine ⟨2, ⟨hb.hP, hb.hV, hb.th, hb.top⟩, ?_, .write a13 a4.took a4.took e1 (by omega), .inl rfl, hoth, (storeI_len _ _ _).trans hg.len⟩
    show RSt ((M.storeI q.1 q.2).atP 1) (M.storeI q.1 q.2).atP ((M.storeI q.1 q.2).atP (11 + 2 * k)) P { t with i := t.i + 1, part := 6 } u 2
    rw [e1, eP]
    rw [List.drop_eq_nil_of_le (by omega)] at a15
    exact .d6 a1 a2 a3 ⟨a4.life, a4.job, a4.took, a4.phased, a4.busy⟩ a5 rfl rfl a11 a12 a13 a15 (Int.le_refl _)
theorem st_cm (hg : Gl k M) (hb : Base k P t u) (a1 : FarW P u.rd t.W) (a2 : u.i = 5) (a3 : Fg t u 1 4 false true true) (a4 : u.fin = 0) (a5 : t.R = rdR u.rd) (a6 : M.atP (11 + 2 * k) = 2) (a7 : Snap (M.atP 1) M.atP t) (a8 : t.stamp + 2 ≤ 1000) (a9 : Com (M.atP 1) M.atP t n) : Own k P M t u n (stepU M t u) := by
  obtain ⟨w1, w2, w3, w4, w5⟩ := rdW_isD a1
  have hR : ∀ e ∈ t.R, isD e.1 := by rw [a5]; exact w1
  have hRl : (t.R.length : Int) = 2 := by rw [a5, rdR_len, w3]; rfl
  have hWn : t.W ≠ [] := fun e => by rw [e] at w4; cases w4
  have hk := hg.k
  cases a9 with
  | p4 h4 g g2 =>
    have e0 : stepX M t = (M.swapI 1 t.stamp (wrap64 (t.stamp + 1)), if M.swapOk 1 t.stamp then (settleT { t with took := true, made := wrap64 (t.stamp + 2), part := 2, i := 0 }, 0) else ({ t with part := 8 }, 0)) := by
      rw [stepX_commit a3.job (by rw [h4]; decide)]; unfold commitT; rw [if_neg (by rw [h4]; decide), if_pos h4]
    by_cases hs : t.stamp = M.atP 1
    · have hn := g hs
      obtain ⟨ha, ho⟩ := swapY hg (M.atP 1 + 1)
      have h0 := hg.s0
      rw [hs, wrap64_id (by omega) (by omega), wrap64_id (by omega) (by omega), if_pos ho, settled (t := { t with stamp := M.atP 1, took := true, made := M.atP 1 + 2, part := 2, i := 0 }) (.inl (by show t.V = _; rw [hb.hV]; rfl)) (Int.le_refl _) rfl, if_pos hWn] at e0
      rw [stepU_c0 e0]
      have hev : oddB (M.atP 1) = false := by rw [← hs]; exact a7.ev
      have hod := odd_up h0 (by omega) hev
      have e1 : (M.swapI 1 (M.atP 1) (M.atP 1 + 1)).atP 1 = M.atP 1 + 1 := by rw [ha, if_pos rfl]
      have eD : ∀ p, isD p → (M.swapI 1 (M.atP 1) (M.atP 1 + 1)).atP p = M.atP p := fun p hp => by rw [ha, if_neg (by have := isD_lo hp; omega)]
      have eP : (M.swapI 1 (M.atP 1) (M.atP 1 + 1)).atP (11 + 2 * k) = 2 := by rw [ha, if_neg (by omega), a6]
      obtain ⟨C, c1, c2, c3⟩ := a7.sn
      have hsum : D4 (after M.atP t.W) = 40 := a1.sum (hg.ev hev) (by
        rw [← a5]
        intro e he
        rw [← c3 hs _ (hR e he)]
        exact c2 e he)
      have hsum2 : D4 (after (M.swapI 1 (M.atP 1) (M.atP 1 + 1)).atP t.W) = 40 := hsum ▸ D4_congr fun p hp => by unfold after; rw [eD p hp]
      refine ⟨4, ⟨hb.hP, hb.hV, hb.th, hb.top⟩, ?_, .take hev a3.took rfl e1 (by show (M.swapI 1 (M.atP 1) (M.atP 1 + 1)).atP 1 ≤ 1000; omega) (by show oddB ((M.swapI 1 (M.atP 1) (M.atP 1 + 1)).atP 1) = true; rw [e1]; exact hod) eD (by omega), .inl rfl, fun p h1 h2 h3 => ?_, (swapI_len _ _ _ _).trans hg.len⟩
      · show RSt ((M.swapI 1 (M.atP 1) (M.atP 1 + 1)).atP 1) (M.swapI 1 (M.atP 1) (M.atP 1 + 1)).atP ((M.swapI 1 (M.atP 1) (M.atP 1 + 1)).atP (11 + 2 * k)) P _ u 4
        rw [e1, eP]
        exact .d5 0 w3 a2 w5 ⟨rfl, a3.job, rfl, a3.phased, a3.busy⟩ a4 rfl rfl w4 rfl (by decide) (by show M.atP 1 + 2 = _; omega) (by omega) hod w2 hsum2 (by decide)
      · show (M.swapI 1 (M.atP 1) (M.atP 1 + 1)).atP p = _
        rw [ha, if_neg h1]
    · have hn := g2 hs
      obtain ⟨_, ho⟩ := swapN hg t.stamp (wrap64 (t.stamp + 1)) hs
      rw [ho, if_neg (by decide)] at e0
      rw [stepU_c0 e0]
      exact own_swapno (n' := n - 1) hg _ _ hs ⟨hb.hP, hb.hV, hb.th, hb.top⟩ (.cm a1 a2 ⟨a3.life, a3.job, a3.took, a3.phased, a3.busy⟩ a4 a5 a6 ⟨a7.s0, a7.s1, a7.ev, a7.sn⟩ a8 (.sk (.p8 rfl (by show (t.R.length : Int) + 2 ≤ n - 1 - 19; omega)))) rfl (by omega) (.inl rfl)
  | sk h =>
    have hq := h.q0
    have e0 : stepX M t = seeksT M t := stepX_seek (.inr a3.job) h.ge
    rcases st_seek hg hb.hV hR h with ⟨p, ho, e, h'⟩ | ⟨p, part, i, now, e, h'⟩ | ⟨p, e, e1, e2, e3, e4⟩ | ⟨p, e⟩
    · rw [stepU_c0 (e0.trans e)]
      exact own_wait hg p ho ⟨hb.hP, hb.hV, hb.th, hb.top⟩ (.cm a1 a2 ⟨a3.life, a3.job, a3.took, a3.phased, a3.busy⟩ a4 a5 a6 ⟨a7.s0, a7.s1, a7.ev, a7.sn⟩ a8 (.sk h')) a3.took a3.took (.inl rfl)
    · rw [stepU_c0 (e0.trans e)]
      refine own_load (n' := n - 1) hg p ⟨hb.hP, hb.hV, hb.th, hb.top⟩ (.cm a1 a2 ⟨a3.life, a3.job, a3.took, a3.phased, a3.busy⟩ a4 a5 a6 ⟨a7.s0, a7.s1, a7.ev, a7.sn⟩ a8 (.sk ?_)) rfl (by omega) (.inl rfl)
      rw [show n - 1 - 19 = n - 19 - 1 by omega]; exact h'
    · have ef : foundT { t with part := 11, i := 0, stamp := t.now } = mayTakeT { t with part := 4, i := 0, stamp := t.now } := by
        unfold foundT
        rw [if_neg (by show ¬ t.job = 3; rw [a3.job]; decide), if_pos (show ({ t with part := 11, i := 0, stamp := t.now } : TxS).job = 4 from a3.job)]
      rw [ef] at e
      have hs1 := hg.s1
      by_cases hto : (1000 : Int) < t.now + 2
      · have em : mayTakeT { t with part := 4, i := 0, stamp := t.now } = abortT { t with part := 4, i := 0, stamp := t.now } 5 := by
          unfold mayTakeT
          rw [if_pos (by show t.top < wrap64 (t.now + 2); rw [hb.top, wrap64_id (by omega) (by omega)]; exact hto)]
        rw [em, abort_cm (t := { t with part := 4, i := 0, stamp := t.now }) a3.phased] at e
        rw [stepU_c0 (e0.trans e)]
        exact own_load (n' := 1) hg p ⟨hb.hP, hb.hV, hb.th, hb.top⟩ (.un ⟨rfl, rfl, a3.took, a3.phased, a3.busy⟩ a4 a6 (Int.le_refl _)) rfl (by omega) (.inl rfl)
      · have em : mayTakeT { t with part := 4, i := 0, stamp := t.now } = ({ t with part := 4, i := 0, stamp := t.now }, 0) := by
          unfold mayTakeT
          rw [if_neg (by show ¬ t.top < wrap64 (t.now + 2); rw [hb.top, wrap64_id (by omega) (by omega)]; exact hto)]
        rw [em] at e
        rw [stepU_c0 (e0.trans e)]
        exact own_load (n' := n - 1) hg p ⟨hb.hP, hb.hV, hb.th, hb.top⟩ (.cm a1 a2 ⟨a3.life, a3.job, a3.took, a3.phased, a3.busy⟩ a4 a5 a6 ⟨e3, by rw [← e1]; exact Int.le_refl _, e4, M.atP, hg.ev (by rw [← e1]; exact e4), e2, fun _ _ _ => rfl⟩ (by show t.now + 2 ≤ 1000; omega) (.p4 rfl (fun _ => by omega) (fun z => absurd e1 z))) rfl (by omega) (.inl rfl)
    · rw [abort_cm a3.phased] at e
      rw [stepU_c0 (e0.trans e)]
      exact own_load (n' := 1) hg p ⟨hb.hP, hb.hV, hb.th, hb.top⟩ (.un ⟨rfl, rfl, a3.took, a3.phased, a3.busy⟩ a4 a6 (Int.le_refl _)) rfl (by omega) (.inl rfl)
end
end Go.Proofs.Ytfmamedkiaimpaa
namespace Go.Proofs.Ytfmamedkiaimpaa
open Go.RowKit
section
variable {k n c a : Int} {P : List OpZ} {M : MemS} {t t' : TxS} {u u' : RunM}
theorem Own.of {z : MemS × TxS × RunM} (h : Own k P M t' u' n z) (h1 : t'.took = t.took) (h2 : u'.rd = u.rd) : Own k P M t u n z := by
  obtain ⟨n', o1, o2, o3, o4, o5, o6⟩ := h
  refine ⟨n', o1, o2, by rw [← h1]; exact o3, ?_, o5, o6⟩
  rcases o4 with o4 | o4
  · exact .inl (o4.trans h2)
  · exact .inr o4
theorem alive {t : TxS} (h1 : t.life = 1) (h2 : t.job = 0) : ((t.life == 1) && (t.job == 0)) = true := by rw [h1, h2]; rfl
theorem loop_busy (m : Nat) (h : u.busy = true) : askLoop m t u = (t, u) := loop_out m t u (by rw [h]; simp)
theorem loop_ask (m : Nat) {t1 : TxS} {u1 : RunM} (hi : u.busy = false) (hf : u.fin = 0) (e : askU t u = (t1, u1)) : askLoop (m + 1) t u = askLoop m t1 u1 := by
  rw [loop_in m t u ⟨hi, hf⟩, e]
/-- a read is asked for -/
theorem ask_read (hb : Base k P t u) (a1 : FarR P u.i u.rd a c) (a2 : Fg t u 1 0 false false false) (a4 : t.R = rdR u.rd) (a5 : t.W = []) : askU t u = (askT { t with pl := dA a } 2 0, { u with busy := true }) := by
  obtain ⟨hl, hpl, hi1, hi4⟩ := a1.plan
  have hD := dA_is a a1.le.2.2.1 a1.le.2.2.2
  have e : askR t u = (askT { t with pl := dA a } 2 0, 0) := by
    unfold askR
    rw [if_neg (by omega), if_neg (by rw [hb.hP, hl]; omega), hb.hP, hpl, if_pos rfl]
    unfold readT
    rw [if_pos (alive a2.life a2.job), if_neg (by rw [a5]; unfold hasW hasKey; simp), if_neg]
    rintro (z | z)
    · exact hash_ok _ hD z
    · unfold roomFor at z
      have := a1.le.1
      rw [a4, rdR_len, decide_eq_true (by omega)] at z
      simp at z
  unfold askU tailU
  rw [e]; rfl
theorem ask_begin (hb : Base k P t u) (a2 : Fg t u 0 0 false false false) (a4 : u.i = 0) : askU t u = (askT { t with life := 1, took := false, phased := false, value := 0, cause := 0, made := 0, R := [], W := [], V := [] } 1 0, { u with busy := true }) := by
  have e : askR t u = (askT { t with life := 1, took := false, phased := false, value := 0, cause := 0, made := 0, R := [], W := [], V := [] } 1 0, 0) := by
    unfold askR beginT
    rw [if_pos a4, if_pos ⟨a2.job, by rw [a2.life]; decide⟩]
  unfold askU tailU
  rw [e]; rfl
theorem ask_commit (hb : Base k P t u) (hl : P.length = 4) (hi : u.i = 5) (h1 : t.life = 1) (h2 : t.job = 0) : askU t u = (askT t 4 3, { u with busy := true }) := by
  have e : askR t u = (askT t 4 3, 0) := by
    unfold askR commitAsk
    rw [if_neg (by rw [hi]; decide), if_pos (by rw [hb.hP, hl, hi]; decide), if_pos (alive h1 h2)]
  unfold askU tailU
  rw [e]; rfl
/-- a write is asked for -/
theorem ask_write (hb : Base k P t u) (hl : P.length = 4) {j : Nat} (hj : j < 4) (hi : u.i = (j : Int) + 1) {at_ x : Int} (hp : P.getD j op0 = (1, at_, x)) (hD : isD (dA at_)) (h1 : t.life = 1) (h2 : t.job = 0) (hw : t.W.length < 32) :
    askU t u = ({ t with W := putW 32 t.W (dA at_) (valU u.rd at_ x) }, { u with busy := false, i := u.i + 1 }) := by
  have hn := isD_nn hD
  have ho : putOk 32 t.W (dA at_) = true := by
    unfold putOk
    simp [hn]; omega
  have hij : u.i.toNat - 1 = j := by omega
  have e : askR t u = ({ t with W := putW 32 t.W (dA at_) (valU u.rd at_ x) }, 1) := by
    unfold askR
    rw [if_neg (by omega), if_neg (by rw [hb.hP, hl]; omega), hb.hP, hij, hp, if_neg (by show ¬ (1 : Int) = 0; decide)]
    unfold writeT
    rw [if_pos (alive h1 h2), if_neg (hash_ok _ hD), if_pos ho]
  have ed : ∀ v, doneU { u with busy := false } v = { u with busy := false, i := u.i + 1 } := fun v => by
    unfold doneU
    rw [if_neg (by show ¬ ((u.P.length : Int) < u.i); rw [hb.hP, hl]; omega), if_neg]
    rintro ⟨_, z⟩
    have z : (u.P.getD (u.i.toNat - 1) op0).1 = 0 := z
    rw [hb.hP, hij, hp] at z
    exact absurd z (by show ¬ (1 : Int) = 0; decide)
  unfold askU tailU
  rw [e, if_pos rfl, ed]
/-- the first step of a Commit without writes -/
theorem st_c3r (hg : Gl k M) (hb : Base k P t u) (hl : P.length = 4) (a1 : u.i = 5) (a2 : Fg t u 1 4 false false true) (a3 : t.part = 3) (a4 : t.W = []) (a5 : u.fin = 0) (hn : 2 ≤ n) : Own k P M t u n (stepU M t u) := by
  have hs : settleT { t with phased := true, part := 2, i := 0 } = { t with phased := true, life := 2, part := 7, i := 0 } := by
    rw [settled (t := { t with phased := true, part := 2, i := 0 }) (.inl (by show t.V = _; rw [hb.hV]; rfl)) (Int.le_refl _) rfl, if_neg (by simp [a4])]
    show { t with phased := true, life := 2, part := if t.took then (6 : Int) else 7, i := 0 } = _
    rw [a2.took]; rfl
  have e : stepX M t = (M.storeI (11 + 2 * k) 2, ({ t with phased := true, life := 2, part := 7, i := 0 }, 0)) := by
    rw [stepX_commit a2.job (by rw [a3]; decide)]; unfold commitT
    rw [if_pos a3, phA_k hg hb.th, if_neg (by rw [a4]; decide), hs]
  rw [stepU_c0 e]
  exact own_phase (n' := 1) hg 2 ⟨hb.hP, hb.hV, hb.th, hb.top⟩ (.d7 a1 hl ⟨rfl, a2.job, a2.took, rfl, a2.busy⟩ a5 rfl rfl (Int.le_refl _)) rfl (by omega) (.inl rfl)
/-- the first step of a Commit with writes -/
theorem st_c3w (hg : Gl k M) (hb : Base k P t u) (hw : FarW P u.rd t.W) (a1 : u.i = 5) (a2 : Fg t u 1 4 false false true) (a3 : t.part = 3) (a4 : t.R = rdR u.rd) (a5 : u.fin = 0) (a7 : Snap (M.atP 1) M.atP t) (h1 : t.stamp = M.atP 1 → 20 ≤ n) (h2 : t.stamp ≠ M.atP 1 → 25 ≤ n) : Own k P M t u n (stepU M t u) := by
  have hwl := (rdW_isD hw).2.2.2.1
  have e0 : stepX M t = (M.storeI (11 + 2 * k) 2, mayTakeT { t with phased := true, part := 4 }) := by
    rw [stepX_commit a2.job (by rw [a3]; decide)]; unfold commitT
    rw [if_pos a3, phA_k hg hb.th, if_pos (by rw [hwl]; decide)]
  have hs1 := hg.s1; have hs0 := a7.s0; have hs2 := a7.s1
  have hn : 20 ≤ n := by
    by_cases z : t.stamp = M.atP 1
    · exact h1 z
    · have := h2 z; omega
  by_cases hto : (1000 : Int) < t.stamp + 2
  · have em : mayTakeT { t with phased := true, part := 4 } = abortT { t with phased := true, part := 4 } 5 := by
      unfold mayTakeT
      rw [if_pos (by show t.top < wrap64 (t.stamp + 2); rw [hb.top, wrap64_id (by omega) (by omega)]; exact hto)]
    rw [em, abort_cm (t := { t with phased := true, part := 4 }) rfl] at e0
    rw [stepU_c0 e0]
    exact own_phase (n' := 1) hg 2 ⟨hb.hP, hb.hV, hb.th, hb.top⟩ (.un ⟨rfl, rfl, a2.took, rfl, a2.busy⟩ a5 rfl (Int.le_refl _)) rfl (by omega) (.inl rfl)
  · have em : mayTakeT { t with phased := true, part := 4 } = ({ t with phased := true, part := 4 }, 0) := by
      unfold mayTakeT
      rw [if_neg (by show ¬ t.top < wrap64 (t.stamp + 2); rw [hb.top, wrap64_id (by omega) (by omega)]; exact hto)]
    rw [em] at e0
    rw [stepU_c0 e0]
    exact own_phase (n' := n - 1) hg 2 ⟨hb.hP, hb.hV, hb.th, hb.top⟩ (.cm hw a1 ⟨a2.life, a2.job, a2.took, rfl, a2.busy⟩ a5 a4 rfl ⟨a7.s0, a7.s1, a7.ev, a7.sn⟩ (by show t.stamp + 2 ≤ 1000; omega) (.p4 rfl (fun z => by have := h1 z; omega) (fun z => by have := h2 z; omega))) rfl (by omega) (.inl rfl)
theorem val_first {a b v v' x : Int} (h : a ≠ b) : valU [(a, v), (b, v')] a x = wrap64 (v + x) := by
  show (if b = a then wrap64 (v' + x) else (if a = a then wrap64 (v + x) else x)) = _
  rw [if_neg (fun z => h z.symm), if_pos rfl]
theorem val_second {a b v v' x : Int} : valU [(a, v), (b, v')] b x = wrap64 (v' + x) := by
  show (if b = b then wrap64 (v' + x) else _) = _
  rw [if_pos rfl]
theorem put_first (p z : Int) (hp : isD p) : putW 32 [] p z = [(p, z)] := by
  have := isD_nn hp
  unfold putW
  rw [if_neg (by omega)]
  rfl
theorem put_second (p q y z : Int) (hp : isD p) (h : q ≠ p) : putW 32 [(q, y)] p z = [(q, y), (p, z)] := by
  have := isD_nn hp
  unfold putW
  rw [if_neg (by omega), show hasKey [(q, y)] p = false by unfold hasKey; simpa using h]
  rfl
theorem own_next (hg : Gl k M) (hb : Base k P t u) (h : RSt (M.atP 1) M.atP (M.atP (11 + 2 * k)) P t u n) (hf : u.fin = 0) : Own k P M t u n (nextU M t u) := by
  cases h with
  | new c a1 a2 a3 a4 a5 a6 a7 =>
    rw [next_step M t _ u _ hf ((loop_ask _ a2.busy hf (ask_begin hb a2 a4)).trans (loop_busy _ rfl)) hf]
    exact Own.of (st_bg (t := askT { t with life := 1, took := false, phased := false, value := 0, cause := 0, made := 0, R := [], W := [], V := [] } 1 0) (u := { u with busy := true }) (c := c) hg ⟨hb.hP, rfl, hb.th, hb.top⟩ a1 ⟨rfl, rfl, rfl, rfl, rfl⟩ a3 a4 a5 rfl rfl rfl a6 a7) a2.took.symm rfl
  | bg c a1 a2 a3 a4 a5 a6 a7 a8 a9 a10 =>
    rw [next_step M t _ u _ hf (loop_busy _ a2.busy) hf]
    exact st_bg hg hb a1 a2 a3 a4 a5 a6 a7 a8 a9 a10
  | idR a c a1 a2 a3 a4 a5 a6 a7 a8 a9 =>
    rw [next_step M t _ u _ hf ((loop_ask _ a2.busy hf (ask_read hb a1 a2 a4 a5)).trans (loop_busy _ rfl)) hf]
    exact Own.of (st_lk (t := askT { t with pl := dA a } 2 0) (u := { u with busy := true }) (a := a) (c := c) hg ⟨hb.hP, hb.hV, hb.th, hb.top⟩ a1 ⟨a2.life, rfl, a2.took, a2.phased, rfl⟩ a3 a4 a5 a6 ⟨a7.s0, a7.s1, a7.ev, a7.sn⟩ rfl (.p0 rfl a8 a9)) rfl rfl
  | idC c a1 a2 a3 a4 a5 a6 a7 a8 a9 =>
    have hbusy := a2.busy
    obtain ⟨uP, ui, ub, uf, ur⟩ := u
    dsimp only at *
    have hPe : uP = P := hb.hP
    cases a1 with
    | r5 v0 v1 v2 v3 =>
      rw [next_step M t _ _ _ hf ((loop_ask _ hbusy hf (ask_commit hb rfl rfl a2.life a2.job)).trans (loop_busy _ rfl)) hf]
      refine Own.of (st_c3r (t := askT t 4 3) (u := ⟨uP, 5, true, uf, [(0, v0), (1, v1), (2, v2), (3, v3)]⟩) hg ⟨hb.hP, hb.hV, hb.th, hb.top⟩ rfl rfl ⟨a2.life, rfl, a2.took, a2.phased, rfl⟩ rfl a5 hf ?_) rfl rfl
      by_cases z : t.stamp = M.atP 1
      · exact a8 z
      · have := a9 z; omega
    | @m3 a b x v v' ok =>
      have hDa := dA_is a ok.a0 ok.a4
      have hDb := dA_is b ok.b0 ok.b4
      have e1 := ask_write (j := 2) hb rfl (by decide) rfl (at_ := a) (x := -x) rfl hDa a2.life a2.job (by rw [a5]; decide)
      rw [a5, put_first _ _ hDa] at e1
      rw [val_first ok.ne] at e1
      have e2 := ask_write (t := { t with W := [(dA a, wrap64 (v + -x))] }) (u := ⟨uP, 3 + 1, false, uf, [(a, v), (b, v')]⟩) (k := k) (j := 3) ⟨hb.hP, hb.hV, hb.th, hb.top⟩ rfl (by decide) rfl (at_ := b) (x := x) rfl hDb a2.life a2.job (by show 1 < 32; decide)
      rw [put_second _ _ _ _ hDb (dA_ne ok)] at e2
      rw [val_second] at e2
      have e3 := ask_commit (t := { t with W := [(dA a, wrap64 (v + -x)), (dA b, wrap64 (v' + x))] }) (u := ⟨uP, 3 + 1 + 1, false, uf, [(a, v), (b, v')]⟩) (k := k) (P := mvP a b x) ⟨hb.hP, hb.hV, hb.th, hb.top⟩ rfl rfl a2.life a2.job
      have hloop : askLoop (uP.length + 3) t ⟨uP, 3, ub, uf, [(a, v), (b, v')]⟩ = (askT { t with W := [(dA a, wrap64 (v + -x)), (dA b, wrap64 (v' + x))] } 4 3, ⟨uP, 3 + 1 + 1, true, uf, [(a, v), (b, v')]⟩) := by
        rw [show uP.length + 3 = (uP.length + 2) + 1 from rfl, loop_ask _ hbusy hf e1]
        rw [show uP.length + 2 = (uP.length + 1) + 1 from rfl, loop_ask _ rfl hf e2]
        rw [loop_ask _ rfl hf e3]
        exact loop_busy _ rfl
      rw [next_step M t _ _ _ hf hloop hf]
      exact Own.of (st_c3w (t := askT { t with W := [(dA a, wrap64 (v + -x)), (dA b, wrap64 (v' + x))] } 4 3) (u := ⟨uP, 3 + 1 + 1, true, uf, [(a, v), (b, v')]⟩) hg ⟨hb.hP, hb.hV, hb.th, hb.top⟩ (.mk v v' ok) rfl ⟨a2.life, rfl, a2.took, a2.phased, rfl⟩ rfl a4 hf ⟨a7.s0, a7.s1, a7.ev, a7.sn⟩ (fun z => a8 z) (fun z => a9 z)) rfl rfl
  | lk a c a1 a2 a3 a4 a5 a6 a7 a8 a9 =>
    rw [next_step M t _ u _ hf (loop_busy _ a2.busy) hf]
    exact st_lk hg hb a1 a2 a3 a4 a5 a6 a7 a8 a9
  | cm a1 a2 a3 a4 a5 a6 a7 a8 a9 =>
    rw [next_step M t _ u _ hf (loop_busy _ a3.busy) hf]
    exact st_cm hg hb a1 a2 a3 a4 a5 a6 a7 a8 a9
  | d5 j a1 a2 a3 a4 a5 a6 a7 a8 a9 a10 a11 a12 a13 a14 a15 a16 =>
    rw [next_step M t _ u _ hf (loop_busy _ a4.busy) hf]
    exact st_d5 hg hb a1 a2 a3 a4 a5 a6 a7 a8 a9 a10 a11 a12 a13 a14 a15 a16
  | d6 a1 a2 a3 a4 a5 a6 a7 a8 a9 a10 a11 a12 =>
    rw [next_step M t _ u _ hf (loop_busy _ a4.busy) hf]
    exact st_d6 hg hb a2 a3 a4 a5 a6 a7 a8 a9 a10 a11 a12
  | d7 a1 a2 a3 a4 a5 a6 a7 =>
    rw [next_step M t _ u _ hf (loop_busy _ a3.busy) hf]
    exact st_d7 hg hb a1 a2 a3 a5 a7
  | un a1 a2 a3 a4 =>
    rw [next_step M t _ u _ hf (loop_busy _ a1.busy) hf]
    exact st_un hg hb a1 a2 a4
  | fin a1 a2 a3 a4 a5 => exact absurd hf a3
end
end Go.Proofs.Ytfmamedkiaimpaa
namespace Go.Proofs.Ytfmamedkiaimpaa
open Go.RowKit
def put3 {α : Type} (f : Nat → α) (k : Nat) (x : α) : Nat → α := fun j => if j = k then x else f j
theorem put3_eq {α : Type} (f : Nat → α) (k : Nat) (x : α) : put3 f k x k = x := if_pos rfl
theorem put3_ne {α : Type} (f : Nat → α) {k j : Nat} (x : α) (h : j ≠ k) : put3 f k x j = f j := if_neg h
theorem put3_self {α : Type} (f : Nat → α) (k : Nat) : put3 f k (f k) = f := by
  funext j
  unfold put3
  split
  · rename_i h; rw [h]
  · rfl
def phi (N : Nat → Int) : Int := N 0 + N 1 + N 2
theorem phi_put (N : Nat → Int) {k : Nat} (hk : k < 3) (x : Int) : phi (put3 N k x) = phi N - N k + x := by
  rcases (show k = 0 ∨ k = 1 ∨ k = 2 by omega) with rfl | rfl | rfl <;> simp [phi, put3] <;> omega
/-- one run -/
structure One (k : Nat) (M : MemS) (P : List OpZ) (t : TxS) (u : RunM) (n : Int) : Prop where
  base : Base (k : Int) P t u
  st : RSt (M.atP 1) M.atP (M.atP (11 + 2 * (k : Int))) P t u n
structure RInv (M : MemS) (T : Nat → TxS) (U : Nat → RunM) (P : Nat → List OpZ) (ex : Nat → Bool) (N : Nat → Int) : Prop where
  len : M.L.length = 34
  s0 : 0 ≤ M.atP 1
  s1 : M.atP 1 ≤ 1000
  ev : oddB (M.atP 1) = false → D4 M.atP = 40
  st : ∀ k, k < 3 → One k M (P k) (T k) (U k) (N k)
  ti : ∀ k, k < 3 → TI (T k)
  ri : ∀ k, k < 3 → RI (U k)
  od : oddB (M.atP 1) = true → ∃ k, k < 3 ∧ (T k).took = true
  un : ∀ j k, j < 3 → k < 3 → (T j).took = true → (T k).took = true → j = k
  nil : ∀ k, k < 3 → ex k = false → (U k).fin ≠ 0 ∧ 26 ≤ N k
def Idle (M : MemS) (T : Nat → TxS) (U : Nat → RunM) (ex : Nat → Bool) (k : Nat) : Prop := (T k).took = false ∧ (oddB (M.atP 1) = false → ex k = true ∧ (U k).fin ≠ 0)
/-- behind the picks that are given: all are at their end, or a bound is nearer -/
def Fm (len i : Nat) (M : MemS) (T : Nat → TxS) (U : Nat → RunM) (ex : Nat → Bool) (N : Nat → Int) : Prop :=
  (∀ k, k < 3 → ex k = true ∧ (U k).fin ≠ 0) ∨ ∃ d : Int, 0 ≤ d ∧ d ≤ 2 ∧ (1 ≤ d → Idle M T U ex ((i + 2) % 3)) ∧ (2 ≤ d → Idle M T U ex ((i + 1) % 3)) ∧ 3 * phi N - d + ((i : Int) - len) ≤ 255
def Sy (len i : Nat) (M : MemS) (T : Nat → TxS) (U : Nat → RunM) (P : Nat → List OpZ) (ex : Nat → Bool) : Prop := ∃ N, RInv M T U P ex N ∧ (len ≤ i → Fm len i M T U ex N)
section
variable {s ph n : Int} {m : Int → Int} {P0 : List OpZ} {t t' : TxS} {u u' : RunM}
theorem Look.n0 {c : Int} (hc : 4 ≤ c) (h : Look s m t c n) : 0 ≤ n := by
  cases h with
  | p0 a b b2 =>
    by_cases z : t.stamp = s
    · have := b z; omega
    · have := b2 z; omega
  | p1 a b b2 =>
    by_cases z : t.stamp = s
    · have := (b z).2; omega
    · have := b2 z; omega
  | sk a => have := a.q0; omega
theorem FarR.c4 {i a c : Int} {rd : List (Int × Int)} (h : FarR P0 i rd a c) : 4 ≤ c := by cases h <;> decide
theorem RSt.n0 (h : RSt s m ph P0 t u n) : 0 ≤ n := by
  cases h with
  | new c a1 a2 a3 a4 a5 a6 a7 => have : 0 ≤ c := by cases a1 <;> decide
                                  omega
  | bg c a1 a2 a3 a4 a5 a6 a7 a8 a9 a10 => have : 0 ≤ c := by cases a1 <;> decide
                                           omega
  | idR a c a1 a2 a3 a4 a5 a6 a7 a8 a9 =>
    have := a1.c4
    by_cases z : t.stamp = s
    · have := a8 z; omega
    · have := a9 z; omega
  | idC c a1 a2 a3 a4 a5 a6 a7 a8 a9 =>
    have := a1.cap
    by_cases z : t.stamp = s
    · have := a8 z; omega
    · have := a9 z; omega
  | lk a c a1 a2 a3 a4 a5 a6 a7 a8 a9 => exact a9.n0 a1.c4
  | cm a1 a2 a3 a4 a5 a6 a7 a8 a9 =>
    cases a9 with
    | p4 a b b2 =>
      by_cases z : t.stamp = s
      · have := b z; omega
      · have := b2 z; omega
    | sk a => have := a.q0; omega
  | d5 k a1 a2 a3 a4 a5 a6 a7 a8 a9 a10 a11 a12 a13 a14 a15 a16 => omega
  | d6 a1 a2 a3 a4 a5 a6 a7 a8 a9 a10 a11 a12 => omega
  | d7 a1 a2 a3 a4 a5 a6 a7 => omega
  | un a1 a2 a3 a4 => omega
  | fin a1 a2 a3 a4 a5 => exact a5
theorem RSt.ended (h : RSt s m ph P0 t u n) (hf : u.fin ≠ 0) : t.took = false ∧ t.job = 0 ∧ ph = 0 := by
  cases h with
  | new c a1 a2 a3 a4 a5 a6 a7 => exact absurd a3 hf
  | bg c a1 a2 a3 a4 a5 a6 a7 a8 a9 a10 => exact absurd a3 hf
  | idR a c a1 a2 a3 a4 a5 a6 a7 a8 a9 => exact absurd a3 hf
  | idC c a1 a2 a3 a4 a5 a6 a7 a8 a9 => exact absurd a3 hf
  | lk a c a1 a2 a3 a4 a5 a6 a7 a8 a9 => exact absurd a3 hf
  | cm a1 a2 a3 a4 a5 a6 a7 a8 a9 => exact absurd a4 hf
  | d5 k a1 a2 a3 a4 a5 a6 a7 a8 a9 a10 a11 a12 a13 a14 a15 a16 => exact absurd a5 hf
  | d6 a1 a2 a3 a4 a5 a6 a7 a8 a9 a10 a11 a12 => exact absurd a5 hf
  | d7 a1 a2 a3 a4 a5 a6 a7 => exact absurd a4 hf
  | un a1 a2 a3 a4 => exact absurd a2 hf
  | fin a1 a2 a3 a4 a5 => exact ⟨a1, a2, a4⟩
end
section
variable {M : MemS} {T : Nat → TxS} {U : Nat → RunM} {P : Nat → List OpZ} {ex : Nat → Bool} {N : Nat → Int} {len i k : Nat}
theorem RInv.gl (h : RInv M T U P ex N) (hk : k < 3) : Gl (k : Int) M := ⟨by omega, h.len, h.s0, h.s1, h.ev⟩
theorem RInv.n0 (h : RInv M T U P ex N) (hk : k < 3) : 0 ≤ N k := (h.st k hk).st.n0
theorem RInv.cap (h : RInv M T U P ex N) : RInv M T U P ex (fun _ => 28) :=
  ⟨h.len, h.s0, h.s1, h.ev, fun k hk => ⟨(h.st k hk).base, (h.st k hk).st.cap⟩, h.ti, h.ri, h.od, h.un, fun k hk e => ⟨(h.nil k hk e).1, by decide⟩⟩
/-- all are at their end -/
theorem RInv.over (h : RInv M T U P ex N) (ha : ∀ k, k < 3 → (U k).fin ≠ 0) : D4 M.atP = 40 ∧ ∀ k : Nat, k < 3 → M.atP (11 + 2 * (k : Int)) = 0 := by
  refine ⟨h.ev ?_, fun k hk => ((h.st k hk).st.ended (ha k hk)).2.2⟩
  cases ho : oddB (M.atP 1) with
  | false => rfl
  | true =>
    obtain ⟨k, hk, ht⟩ := h.od ho
    rw [((h.st k hk).st.ended (ha k hk)).1] at ht
    cases ht
/-- three picks without any getting on: all are at their end -/
theorem RInv.idle3 (h : RInv M T U P ex N) (hi : ∀ k, k < 3 → Idle M T U ex k) : ∀ k, k < 3 → ex k = true ∧ (U k).fin ≠ 0 := by
  intro k hk
  refine (hi k hk).2 ?_
  cases ho : oddB (M.atP 1) with
  | false => rfl
  | true =>
    obtain ⟨j, hj, ht⟩ := h.od ho
    rw [(hi j hj).1] at ht
    cases ht
/-- a run is made anew -/
theorem RInv.renew (h : RInv M T U P ex N) (hk : k < 3) (hf : (U k).fin ≠ 0) {P' : List OpZ} {c n' : Int} (hp : PK P' c) (hn : c + 1 ≤ n') : RInv M (put3 T k (tx0 k)) (put3 U k (run0 P')) (put3 P k P') (put3 ex k true) (put3 N k n') := by
  obtain ⟨e1, e2, e3⟩ := (h.st k hk).st.ended hf
  refine ⟨h.len, h.s0, h.s1, h.ev, fun j hj => ?_, fun j hj => ?_, fun j hj => ?_, fun ho => ?_, fun i j hi hj h1 h2 => ?_, fun j hj e => ?_⟩
  · by_cases z : j = k
    · subst z
      simp only [put3_eq]
      exact ⟨⟨rfl, rfl, rfl, rfl⟩, .new c hp ⟨rfl, rfl, rfl, rfl, rfl⟩ rfl rfl rfl e3 hn⟩
    · simp only [put3_ne _ _ z]
      exact h.st j hj
  · by_cases z : j = k
    · subst z; rw [put3_eq]; exact TI.new _
    · rw [put3_ne _ _ z]; exact h.ti j hj
  · by_cases z : j = k
    · subst z; rw [put3_eq]; exact RI.new (P := P') (by have := hp.first.1; omega)
    · rw [put3_ne _ _ z]; exact h.ri j hj
  · obtain ⟨j, hj, ht⟩ := h.od ho
    refine ⟨j, hj, ?_⟩
    by_cases z : j = k
    · subst z; rw [e1] at ht; cases ht
    · rw [put3_ne _ _ z]; exact ht
  · have q : ∀ x, x < 3 → (put3 T k (tx0 k) x).took = true → (T x).took = true := fun x _ e => by
      by_cases z : x = k
      · subst z; rw [put3_eq] at e; cases e
      · rw [put3_ne _ _ z] at e; exact e
    exact h.un i j hi hj (q i hi h1) (q j hj h2)
  · by_cases z : j = k
    · subst z; rw [put3_eq] at e; cases e
    · rw [put3_ne _ _ z] at e ⊢; rw [put3_ne _ _ z]; exact h.nil j hj e
theorem ph_oth {j k : Nat} (hj : j < 3) (hk : k < 3) (h : j ≠ k) : (11 + 2 * (j : Int)) ≠ 1 ∧ (11 + 2 * (j : Int)) ≠ 11 + 2 * (k : Int) ∧ ¬ isD (11 + 2 * (j : Int)) := by
  refine ⟨by omega, by omega, fun e => ?_⟩
  have := isD_lo e
  omega
/-- a pick of one that is not at its end -/
theorem RInv.step (h : RInv M T U P ex N) (hk : k < 3) (hex : ex k = true) (hf : (U k).fin = 0) :
    ∃ N', RInv (nextU M (T k) (U k)).1 (put3 T k (nextU M (T k) (U k)).2.1) (put3 U k (nextU M (T k) (U k)).2.2) P ex N' ∧
      (phi N' + 1 ≤ phi N ∨ (phi N' ≤ phi N ∧ oddB (M.atP 1) = true ∧ (nextU M (T k) (U k)).1.atP 1 = M.atP 1 ∧ (nextU M (T k) (U k)).2.1.took = false)) ∧ RdOk (U k) (nextU M (T k) (U k)).2.2 := by
  have hti := next_TI (h.ti k hk) M (U k)
  have hri := next_RI (h.ri k hk) M (T k)
  obtain ⟨n', o1, o2, o3, o4, o5, o6⟩ := own_next (h.gl hk) (h.st k hk).base (h.st k hk).st hf
  generalize nextU M (T k) (U k) = z at *
  obtain ⟨M', t', u'⟩ := z
  dsimp only at *
  have hph : ∀ j, j < 3 → j ≠ k → M'.atP (11 + 2 * (j : Int)) = M.atP (11 + 2 * (j : Int)) := fun j hj hn => by
    obtain ⟨a, b, c⟩ := ph_oth hj hk hn
    exact o5 _ a b c
  have mk : ∀ N' : Nat → Int, N' k = n' → (∀ j, j < 3 → N j ≤ N' j ∨ j = k) → 0 ≤ M'.atP 1 → M'.atP 1 ≤ 1000 → (oddB (M'.atP 1) = false → D4 M'.atP = 40) → (∀ j, j < 3 → j ≠ k → RSt (M'.atP 1) M'.atP (M.atP (11 + 2 * (j : Int))) (P j) (T j) (U j) (N' j)) →
      (oddB (M'.atP 1) = true → t'.took = true ∨ ∃ j, j < 3 ∧ j ≠ k ∧ (T j).took = true) → (t'.took = true → ∀ j, j < 3 → j ≠ k → (T j).took = false) →
      RInv M' (put3 T k t') (put3 U k u') P ex N' := fun N' e1 e2 e3 e4 e5 e6 e7 e8 => by
    refine ⟨o6, e3, e4, e5, fun j hj => ?_, fun j hj => ?_, fun j hj => ?_, fun ho => ?_, fun i j hi hj h1 h2 => ?_, fun j hj e => ?_⟩
    · by_cases z : j = k
      · subst z
        rw [put3_eq, put3_eq, e1]
        exact ⟨o1, o2⟩
      · rw [put3_ne _ _ z, put3_ne _ _ z]
        refine ⟨(h.st j hj).base, ?_⟩
        rw [hph j hj z]
        exact e6 j hj z
    · by_cases z : j = k
      · subst z; rw [put3_eq]; exact hti
      · rw [put3_ne _ _ z]; exact h.ti j hj
    · by_cases z : j = k
      · subst z; rw [put3_eq]; exact hri
      · rw [put3_ne _ _ z]; exact h.ri j hj
    · rcases e7 ho with q | ⟨j, hj, hn, ht⟩
      · exact ⟨k, hk, by rw [put3_eq]; exact q⟩
      · exact ⟨j, hj, by rw [put3_ne _ _ hn]; exact ht⟩
    · by_cases zi : i = k
      · by_cases zj : j = k
        · rw [zi, zj]
        · subst zi
          rw [put3_eq] at h1
          rw [put3_ne _ _ zj, e8 h1 j hj zj] at h2
          cases h2
      · by_cases zj : j = k
        · subst zj
          rw [put3_eq] at h2
          rw [put3_ne _ _ zi, e8 h2 i hi zi] at h1
          cases h1
        · rw [put3_ne _ _ zi] at h1
          rw [put3_ne _ _ zj] at h2
          exact h.un i j hi hj h1 h2
    · by_cases z : j = k
      · subst z; rw [hex] at e; cases e
      · rw [put3_ne _ _ z]
        obtain ⟨f1, f2⟩ := h.nil j hj e
        refine ⟨f1, ?_⟩
        rcases e2 j hj with q | q
        · omega
        · exact absurd q z
  have noth : (T k).took = true → ∀ j, j < 3 → j ≠ k → (T j).took = false := fun ht j hj hn => by
    cases q : (T j).took with
    | false => rfl
    | true => exact absurd (h.un j k hj hk q ht) hn
  have hphi : ∀ x, phi (put3 N k x) = phi N - N k + x := phi_put N hk
  have hle : ∀ x j, j < 3 → N j ≤ put3 N k x j ∨ j = k := fun x j _ => by
    by_cases z : j = k
    · exact .inr z
    · rw [put3_ne _ _ z]; exact .inl (Int.le_refl _)
  cases o3 with
  | wait w1 w2 w3 w4 w5 w6 =>
    refine ⟨put3 N k n', mk _ (put3_eq _ _ _) (hle n') (by rw [w4]; exact h.s0) (by rw [w4]; exact h.s1) (fun e => by rw [w4, w1] at e; cases e) (fun j hj hn => ?_) (fun _ => ?_) (fun e => by rw [w3] at e; cases e), .inr ⟨by rw [hphi]; omega, w1, w4, w3⟩, o4⟩
    · rw [w4, put3_ne _ _ hn]; exact (h.st j hj).st.same w5
    · obtain ⟨j, hj, ht⟩ := h.od w1
      exact .inr ⟨j, hj, (fun e => by subst e; rw [w2] at ht; cases ht), ht⟩
  | go w1 w2 w3 w4 =>
    refine ⟨put3 N k n', mk _ (put3_eq _ _ _) (hle n') (by rw [w2]; exact h.s0) (by rw [w2]; exact h.s1) (fun e => by rw [w2] at e; exact (D4_congr w3).trans (h.ev e)) (fun j hj hn => ?_) (fun e => ?_) (fun e => noth (by rw [← w1]; exact e)), .inl (by rw [hphi]; omega), o4⟩
    · rw [w2, put3_ne _ _ hn]; exact (h.st j hj).st.same w3
    · rw [w2] at e
      obtain ⟨j, hj, ht⟩ := h.od e
      by_cases z : j = k
      · subst z; exact .inl (w1.trans ht)
      · exact .inr ⟨j, hj, z, ht⟩
  | take w1 w2 w3 w4 w5 w6 w7 w8 =>
    have nt : ∀ j, j < 3 → (T j).took = false := fun j hj => by
      have q := (h.st j hj).st
      cases ht : (T j).took with
      | false => rfl
      | true =>
        exfalso
        cases q with
        | d5 l a1 a2 a3 a4 a5 a6 a7 a8 a9 a10 a11 a12 a13 a14 a15 a16 => rw [w1] at a13; cases a13
        | d6 a1 a2 a3 a4 a5 a6 a7 a8 a9 a10 a11 a12 => rw [w1] at a10; cases a10
        | new c a1 a2 a3 a4 a5 a6 a7 => rw [a2.took] at ht; cases ht
        | bg c a1 a2 a3 a4 a5 a6 a7 a8 a9 a10 => rw [a2.took] at ht; cases ht
        | idR a c a1 a2 a3 a4 a5 a6 a7 a8 a9 => rw [a2.took] at ht; cases ht
        | idC c a1 a2 a3 a4 a5 a6 a7 a8 a9 => rw [a2.took] at ht; cases ht
        | lk a c a1 a2 a3 a4 a5 a6 a7 a8 a9 => rw [a2.took] at ht; cases ht
        | cm a1 a2 a3 a4 a5 a6 a7 a8 a9 => rw [a3.took] at ht; cases ht
        | d7 a1 a2 a3 a4 a5 a6 a7 => rw [a3.took] at ht; cases ht
        | un a1 a2 a3 a4 => rw [a1.took] at ht; cases ht
        | fin a1 a2 a3 a4 a5 => rw [a1] at ht; cases ht
    have hs0 := h.s0
    refine ⟨fun j => if j = k then n' else N j + 7, mk _ (if_pos rfl) (fun j hj => ?_) (by omega) w5 (fun e => by rw [w6] at e; cases e) (fun j hj hn => ?_) (fun _ => .inl w3) (fun _ j hj _ => nt j hj), .inl ?_, o4⟩
    · by_cases z : j = k
      · exact .inr z
      · left; rw [if_neg z]; omega
    · rw [if_neg hn]; exact (h.st j hj).st.take (nt j hj) (by omega)
    · unfold phi
      rcases (show k = 0 ∨ k = 1 ∨ k = 2 by omega) with rfl | rfl | rfl <;> simp <;> omega
  | write w1 w2 w3 w4 w5 =>
    refine ⟨put3 N k n', mk _ (put3_eq _ _ _) (hle n') (by rw [w4]; exact h.s0) (by rw [w4]; exact h.s1) (fun e => by rw [w4, w1] at e; cases e) (fun j hj hn => ?_) (fun _ => .inl w3) (fun _ => noth w2), .inl (by rw [hphi]; omega), o4⟩
    rw [put3_ne _ _ hn]; exact (h.st j hj).st.odd (noth w2 j hj hn) w1 (by omega)
  | give w1 w2 w3 w4 w5 w6 w7 w8 =>
    have hs0 := h.s0
    refine ⟨put3 N k n', mk _ (put3_eq _ _ _) (hle n') (by omega) w5 (fun _ => w7) (fun j hj hn => ?_) (fun e => by rw [w6] at e; cases e) (fun e => by rw [w3] at e; cases e), .inl (by rw [hphi]; omega), o4⟩
    rw [put3_ne _ _ hn]; exact (h.st j hj).st.odd (noth w2 j hj hn) w1 (by omega)
/-- at the beginning -/
theorem Sy.first (hl : M.L.length = 34) (hs : M.atP 1 = 0) (hp : ∀ k : Nat, k < 3 → M.atP (11 + 2 * (k : Int)) = 0) (hd : D4 M.atP = 40) (len : Nat) : Sy len 0 M (fun k => tx0 k) (fun _ => { run0 [] with fin := 1 }) (fun _ => []) (fun _ => false) := by
  refine ⟨fun _ => 28, ⟨hl, by omega, by omega, fun _ => hd, fun k hk => ⟨⟨rfl, rfl, rfl, rfl⟩, .fin rfl rfl (by show ¬ (1 : Int) = 0; decide) (hp k hk) (by decide)⟩, fun k _ => TI.new _, fun k _ => ⟨by decide, by decide, by decide, by decide⟩, fun e => ?_, fun i j _ _ e => (by cases e), fun k _ _ => ⟨by show ¬ (1 : Int) = 0; decide, by decide⟩⟩, fun _ => .inr ⟨0, Int.le_refl _, by decide, fun e => absurd e (by decide), fun e => absurd e (by decide), ?_⟩⟩
  · rw [hs, odd0] at e; cases e
  · show 3 * ((28 : Int) + 28 + 28) - 0 + _ ≤ 255; omega
/-- a run is made anew -/
theorem Sy.renew (h : Sy len i M T U P ex) (hk : k < 3) (hi : len ≤ i → k = i % 3 ∧ ex k = false) (hf : (U k).fin ≠ 0) {P' : List OpZ} {c : Int} (hp : PK P' c) : Sy len i M (put3 T k (tx0 k)) (put3 U k (run0 P')) (put3 P k P') (put3 ex k true) := by
  obtain ⟨N, h1, h2⟩ := h
  by_cases hl : len ≤ i
  · obtain ⟨hki, he⟩ := hi hl
    have hn := (h1.nil k hk he).2
    have hc := hp.cap
    have hr := h1.renew hk hf hp (n' := N k) (by omega)
    rw [put3_self] at hr
    refine ⟨N, hr, fun _ => ?_⟩
    rcases h2 hl with ha | ⟨d, d0, d1, d2, d3, d4⟩
    · rw [(ha k hk).1] at he; cases he
    · have q : ∀ j, j ≠ k → Idle M T U ex j → Idle M (put3 T k (tx0 k)) (put3 U k (run0 P')) (put3 ex k true) j := fun j hj z => by
        unfold Idle at z ⊢
        rw [put3_ne _ _ hj, put3_ne _ _ hj, put3_ne _ _ hj]; exact z
      exact .inr ⟨d, d0, d1, fun e => q _ (by omega) (d2 e), fun e => q _ (by omega) (d3 e), d4⟩
  · exact ⟨_, h1.renew hk hf hp (Int.le_refl _), fun e => absurd e hl⟩
/-- a pick -/
theorem Sy.step (h : Sy len i M T U P ex) (hk : k < 3) (hi : len ≤ i → k = i % 3) (hex : ex k = true) (hf : i < len → (U k).fin = 0) :
    Sy len (i + 1) (nextU M (T k) (U k)).1 (put3 T k (nextU M (T k) (U k)).2.1) (put3 U k (nextU M (T k) (U k)).2.2) P ex ∧ RdOk (U k) (nextU M (T k) (U k)).2.2 := by
  obtain ⟨N, h1, h2⟩ := h
  have base0 : ∀ {N' : Nat → Int} {M' : MemS} {T' : Nat → TxS} {U' : Nat → RunM}, RInv M' T' U' P ex N' → i < len → Sy len (i + 1) M' T' U' P ex := fun {N' M' T' U'} r hl =>
    ⟨_, r.cap, fun hl2 => .inr ⟨0, Int.le_refl _, by decide, fun e => absurd e (by decide), fun e => absurd e (by decide), by show 3 * ((28 : Int) + 28 + 28) - 0 + _ ≤ 255; omega⟩⟩
  by_cases hfz : (U k).fin = 0
  · obtain ⟨N', r, hd, ho⟩ := h1.step hk hex hfz
    refine ⟨?_, ho⟩
    by_cases hl : len ≤ i
    · have hki := hi hl
      refine ⟨N', r, fun _ => ?_⟩
      rcases h2 hl with ha | ⟨d, d0, d1, d2, d3, d4⟩
      · exact absurd hfz (ha k hk).2
      · rcases hd with hd | ⟨w1, w2, w3, w4⟩
        · exact .inr ⟨0, Int.le_refl _, by decide, fun e => absurd e (by decide), fun e => absurd e (by decide), by omega⟩
        · have q : ∀ j, j ≠ k → Idle M T U ex j → Idle (nextU M (T k) (U k)).1 (put3 T k (nextU M (T k) (U k)).2.1) (put3 U k (nextU M (T k) (U k)).2.2) ex j := fun j hj z => by
            unfold Idle at z ⊢
            rw [put3_ne _ _ hj, put3_ne _ _ hj, w3]; exact z
          have qk : Idle (nextU M (T k) (U k)).1 (put3 T k (nextU M (T k) (U k)).2.1) (put3 U k (nextU M (T k) (U k)).2.2) ex k := by
            unfold Idle
            rw [put3_eq, w3]
            exact ⟨w4, fun e => by rw [w2] at e; cases e⟩
          by_cases hd2 : d = 2
          · left
            refine r.idle3 fun j hj => ?_
            by_cases z : j = k
            · subst z; exact qk
            · rcases (show j = (i + 2) % 3 ∨ j = (i + 1) % 3 by omega) with e | e
              · exact q j z (e ▸ d2 (by omega))
              · exact q j z (e ▸ d3 (by omega))
          · refine .inr ⟨d + 1, by omega, by omega, fun _ => ?_, fun e => ?_, by omega⟩
            · rw [show (i + 1 + 2) % 3 = k by omega]; exact qk
            · rw [show (i + 1 + 1) % 3 = (i + 2) % 3 by omega]; exact q _ (by omega) (d2 (by omega))
    · exact base0 r (by omega)
  · rw [next_end M (T k) (U k) hfz]
    dsimp only
    rw [put3_self, put3_self]
    refine ⟨?_, .inl rfl⟩
    have hl : len ≤ i := by
      by_cases z : i < len
      · exact absurd (hf z) hfz
      · omega
    have hki := hi hl
    refine ⟨N, h1, fun _ => ?_⟩
    rcases h2 hl with ha | ⟨d, d0, d1, d2, d3, d4⟩
    · exact .inl ha
    · have qk : Idle M T U ex k := ⟨((h1.st k hk).st.ended hfz).1, fun _ => ⟨hex, hfz⟩⟩
      by_cases hd2 : d = 2
      · left
        refine h1.idle3 fun j hj => ?_
        by_cases z : j = k
        · subst z; exact qk
        · rcases (show j = (i + 2) % 3 ∨ j = (i + 1) % 3 by omega) with e | e
          · exact e ▸ d2 (by omega)
          · exact e ▸ d3 (by omega)
      · refine .inr ⟨d + 1, by omega, by omega, fun _ => ?_, fun e => ?_, by omega⟩
        · rw [show (i + 1 + 2) % 3 = k by omega]; exact qk
        · rw [show (i + 1 + 1) % 3 = (i + 2) % 3 by omega]; exact d2 (by omega)
/-- at the end -/
theorem Sy.last (h : Sy len (len + 300) M T U P ex) : D4 M.atP = 40 ∧ ∀ k : Nat, k < 3 → (U k).fin ≠ 0 ∧ M.atP (11 + 2 * (k : Int)) = 0 := by
  obtain ⟨N, h1, h2⟩ := h
  have ha : ∀ k, k < 3 → (U k).fin ≠ 0 := by
    rcases h2 (by omega) with ha | ⟨d, d0, d1, d2, d3, d4⟩
    · exact fun k hk => (ha k hk).2
    · exfalso
      have q0 := h1.n0 (k := 0) (by decide)
      have q1 := h1.n0 (k := 1) (by decide)
      have q2 := h1.n0 (k := 2) (by decide)
      unfold phi at d4
      omega
  obtain ⟨e1, e2⟩ := h1.over ha
  exact ⟨e1, fun k hk => ⟨ha k hk, e2 k hk⟩⟩
end
end Go.Proofs.Ytfmamedkiaimpaa
