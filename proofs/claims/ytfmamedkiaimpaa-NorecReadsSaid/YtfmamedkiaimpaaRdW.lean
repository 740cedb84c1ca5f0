/- NorecReads: three runs beside one memory, the law's own rows: what stands in a world, and how it goes on. -/
import Derived.Test.YtfmamedkiaimpaaRdE
import Derived.Test.YtfmamedkiaimpaaTxLaw
import Derived.Test.YtfmamedkiaimpaaRow
namespace Go.Proofs.Ytfmamedkiaimpaa
open Go.RowKit
structure Rn where
  X : Nat
  ra : Nat
  wa : Nat
  U : Nat
  pv : Value
  rv : Value
  wv : Value
  vv : Value
  rdv : Value
def rnO (r : Rn) : Nat → Prop := fun g => txO r.X r.ra r.wa r.rv r.wv r.vv g ∨ g = r.U ∨ r.rdv.ownBlock = some g ∨ r.pv.ownBlock = some g
abbrev NRr (w : World) (a : Nat) (v : Value) (M : MemS) (r : Rn) (t : TxS) (u : RunM) : Prop := NR w a v M r.X r.ra r.wa r.rv r.wv r.vv t r.U r.pv r.rdv u
inductive O3
  | run (k : Nat)
  | mem
  | arr
  | mp
  | sum
def own3 (a : Nat) (v : Value) (A B : Nat) (sv : Value) (G : Nat → Rn) (ex : Nat → Bool) : O3 → Nat → Prop
  | .run k, g => k < 3 ∧ ex k = true ∧ rnO (G k) g
  | .mem, g => own2m a v g
  | .arr, g => g = A
  | .mp, g => g = B
  | .sum, g => sv.ownBlock = some g
def pc (G : Nat → Rn) (ex : Nat → Bool) (k : Nat) : Value := .pointer (if ex k then some ⟨(G k).U, 0, none⟩ else none)
structure W3 (w wr : World) (a : Nat) (v : Value) (A B : Nat) (sv : Value) (sums : List Int) (M : MemS) (G : Nat → Rn) (T : Nat → TxS) (U : Nat → RunM) (ex : Nat → Bool) : Prop where
  rn : ∀ k, k < 3 → ex k = true → NRr wr a v M (G k) (T k) (U k)
  mm : MemAt wr a v M
  ap : ∀ i j g, i ≠ j → own3 a v A B sv G ex i g → own3 a v A B sv G ex j g → False
  lo : ∀ i g, own3 a v A B sv G ex i g → w.heap.size ≤ g
  hi : ∀ i g, own3 a v A B sv G ex i g → g < wr.heap.size
  arr : ∃ T, wr.heap[A]? = some (.cells #[pc G ex 0, pc G ex 1, pc G ex 2] T (0, 0))
  mp : MapAt wr B 3 1 3 0 4
  sm : RowI 2 wr w.heap.size sv sums
  kp : Keeps NoS w wr
section
variable {w wr w1 w2 : World} {a A B k : Nat} {v sv sv' : Value} {sums sums' : List Int} {M M' : MemS} {G : Nat → Rn} {T : Nat → TxS} {U : Nat → RunM} {ex : Nat → Bool} {t' : TxS} {u' : RunM} {r : Rn} {t : TxS} {u : RunM} {S : Nat → Prop}
/-- a run beside another one that goes on -/
theorem NR.beside (h : NRr w a v M r t u) (k : Keeps S w w2) (hS : ∀ g, rnO r g → ¬ S g) (hm : MemAt w2 a v M') : NRr w2 a v M' r t u :=
  ⟨⟨h.nx.tx.keep k (fun g e => hS g (.inl e)), hm, h.nx.ap⟩, k.blk h.hd (hS _ (.inr (.inl rfl))), h.pl.keep k (fun g e => hS g (.inr (.inr (.inr e)))), k.owns h.rd (fun g e => hS g (.inr (.inr (.inl e)))), h.dU, fun g e => ⟨Nat.lt_of_lt_of_le (h.dP g e).1 k.size, (h.dP g e).2⟩, h.dR⟩
theorem NR.rlt (h : NRr w a v M r t u) {g : Nat} (e : rnO r g) : g < w.heap.size := by
  rcases e with e | e | e | e
  · exact h.bd (.inl e)
  · rw [e]; exact h.lt
  · exact (h.rd.lt g e).2
  · exact (h.dP g e).1
theorem W3.no (h : W3 w wr a v A B sv sums M G T U ex) (k : Keeps NoS wr w2) : W3 w w2 a v A B sv sums M G T U ex :=
  ⟨fun j hj he => (h.rn j hj he).no k, h.mm.keep k (fun f => f) (fun _ _ f => f), h.ap, h.lo, fun i g e => Nat.lt_of_lt_of_le (h.hi i g e) k.size, h.arr.imp fun T z => k.blk z (fun f => f), h.mp.keep k (fun f => f), h.sm.no k, h.kp.trans k⟩
/-- a run goes on -/
theorem W3.step (h : W3 w wr a v A B sv sums M G T U ex) (hk : k < 3) (he : ex k = true) (s : NRP wr w2 a v M' (G k).X (G k).ra (G k).wa (G k).rv (G k).wv (G k).vv t' (G k).U (G k).pv (G k).rdv u') :
    ∃ G', (G' k).U = (G k).U ∧ W3 w w2 a v A B sv sums M' G' (put3 T k t') (put3 U k u') ex := by
  obtain ⟨rv', wv', vv', rdv', n1, n2, n3⟩ := s
  have hs := n2.size
  have hws := h.kp.size
  obtain ⟨r', hr⟩ : ∃ r' : Rn, r' = ⟨(G k).X, (G k).ra, (G k).wa, (G k).U, (G k).pv, rv', wv', vv', rdv'⟩ := ⟨_, rfl⟩
  have hN : NRr w2 a v M' r' t' u' := by rw [hr]; exact n1
  have hold : ∀ g, ruO a v (G k).X (G k).ra (G k).wa (G k).rv (G k).wv (G k).vv (G k).U (G k).rdv g → rnO (G k) g ∨ own2m a v g := fun g e => by
    rcases e with (e | e) | e | e
    · exact .inl (.inl e)
    · exact .inr e
    · exact .inl (.inr (.inl e))
    · exact .inl (.inr (.inr (.inl e)))
  have hn : ∀ i g, i ≠ .run k → i ≠ .mem → own3 a v A B sv G ex i g → ¬ ruO a v (G k).X (G k).ra (G k).wa (G k).rv (G k).wv (G k).vv (G k).U (G k).rdv g := fun i g hi hm e e2 =>
    (hold g e2).elim (fun e2 => h.ap i (.run k) g hi e ⟨hk, he, e2⟩) (fun e2 => h.ap i .mem g hm e e2)
  have hown : ∀ g, rnO r' g → ¬ own2m a v g := fun g e e2 => by
    rcases e with e | e | e | e
    · exact hN.nx.ap g e2 e
    · exact hN.dU (by rw [← e]; exact .inr e2)
    · exact (hN.dR g e).2.2 (.inr e2)
    · exact (hN.dP g e).2.2 (.inr e2)
  have hnew : ∀ g, rnO r' g → rnO (G k) g ∨ wr.heap.size ≤ g := fun g e => by
    have q : ruO a v (G k).X (G k).ra (G k).wa rv' wv' vv' (G k).U rdv' g → rnO (G k) g ∨ wr.heap.size ≤ g := fun z => (n3 g z).elim (fun z => (hold g z).elim .inl (fun z2 => absurd z2 (hown g e))) .inr
    have e0 := e
    rw [hr] at e
    rcases e with e | e | e | e
    · exact q (.inl (.inl e))
    · exact .inl (.inr (.inl e))
    · exact q (.inr (.inr e))
    · exact .inl (.inr (.inr (.inr e)))
  have key : ∀ i g, own3 a v A B sv (put3 G k r') ex i g → own3 a v A B sv G ex i g ∨ (i = .run k ∧ wr.heap.size ≤ g) := by
    intro i g e
    cases i with
    | run j =>
      by_cases hj : j = k
      · subst hj
        obtain ⟨_, _, e⟩ := e
        rw [put3_eq] at e
        rcases hnew g e with e | e
        · exact .inl ⟨hk, he, e⟩
        · exact .inr ⟨rfl, e⟩
      · obtain ⟨q1, q2, e⟩ := e
        rw [put3_ne _ _ hj] at e
        exact .inl ⟨q1, q2, e⟩
    | mem => exact .inl e
    | arr => exact .inl e
    | mp => exact .inl e
    | sum => exact .inl e
  have hpc : ∀ j, pc (put3 G k r') ex j = pc G ex j := fun j => by
    unfold pc
    by_cases hj : j = k
    · subst hj
      rw [put3_eq, hr]
    · rw [put3_ne _ _ hj]
  refine ⟨put3 G k r', (by rw [put3_eq, hr]), fun j hj he2 => ?_, n1.nx.mm, fun i j g hij ei ej => ?_, fun i g e => ?_, fun i g e => ?_, ?_, h.mp.keep n2 (hn .mp B (by simp) (by simp) rfl), h.sm.keep n2 (fun g e => hn .sum g (by simp) (by simp) e), h.kp.trans' n2 (fun i hi e => ?_)⟩
  · by_cases hj2 : j = k
    · subst hj2
      rw [put3_eq, put3_eq, put3_eq]
      exact hN
    · rw [put3_ne _ _ hj2, put3_ne _ _ hj2, put3_ne _ _ hj2]
      exact NR.beside (h.rn j hj he2) n2 (fun g e => hn (.run j) g (by simpa using hj2) (by simp) ⟨hj, he2, e⟩) n1.nx.mm
  · rcases key i g ei with a1 | ⟨a1, a2⟩ <;> rcases key j g ej with b1 | ⟨b1, b2⟩
    · exact h.ap i j g hij a1 b1
    · have := h.hi i g a1; omega
    · have := h.hi j g b1; omega
    · exact hij (a1.trans b1.symm)
  · rcases key i g e with a1 | ⟨_, a2⟩
    · exact h.lo i g a1
    · omega
  · rcases key i g e with a1 | ⟨a1, a2⟩
    · have := h.hi i g a1; omega
    · subst a1
      obtain ⟨_, _, e⟩ := e
      rw [put3_eq] at e
      exact NR.rlt hN e
  · obtain ⟨TT, z⟩ := h.arr
    exact ⟨TT, by rw [hpc, hpc, hpc]; exact n2.blk z (hn .arr A (by simp) (by simp) rfl)⟩
  · rcases hold i e with e | e
    · exact absurd (h.lo (.run k) i ⟨hk, he, e⟩) (by omega)
    · exact absurd (h.lo .mem i e) (by omega)
/-- the row of sums grows -/
theorem W3.grow (h : W3 w wr a v A B sv sums M G T U ex) (k : Keeps (fun g => sv.ownBlock = some g) wr w2) (hr : RowI 2 w2 w.heap.size sv' sums') (hb : ∀ g, sv'.ownBlock = some g → sv.ownBlock = some g ∨ wr.heap.size ≤ g) : W3 w w2 a v A B sv' sums' M G T U ex := by
  have hs := k.size
  have hws := h.kp.size
  have hn : ∀ i g, i ≠ .sum → own3 a v A B sv G ex i g → ¬ sv.ownBlock = some g := fun i g hi e e2 => h.ap i .sum g hi e e2
  have key : ∀ i g, own3 a v A B sv' G ex i g → own3 a v A B sv G ex i g ∨ (i = .sum ∧ wr.heap.size ≤ g) := by
    intro i g e
    cases i with
    | sum => exact (hb g e).imp id (fun z => ⟨rfl, z⟩)
    | run j => exact .inl e
    | mem => exact .inl e
    | arr => exact .inl e
    | mp => exact .inl e
  have hmm := h.mm.keep k (hn .mem a (by simp) (.inl rfl)) (fun g e => hn .mem g (by simp) (.inr e))
  refine ⟨fun j hj he => NR.beside (h.rn j hj he) k (fun g e => hn (.run j) g (by simp) ⟨hj, he, e⟩) hmm, hmm, fun i j g hij ei ej => ?_, fun i g e => ?_, fun i g e => ?_, h.arr.imp fun T z => k.blk z (hn .arr A (by simp) rfl), h.mp.keep k (hn .mp B (by simp) rfl), hr, h.kp.trans' k (fun i hi e => absurd (h.lo .sum i e) (by omega))⟩
  · rcases key i g ei with a1 | ⟨a1, a2⟩ <;> rcases key j g ej with b1 | ⟨b1, b2⟩
    · exact h.ap i j g hij a1 b1
    · have := h.hi i g a1; omega
    · have := h.hi j g b1; omega
    · exact hij (a1.trans b1.symm)
  · rcases key i g e with a1 | ⟨_, a2⟩
    · exact h.lo i g a1
    · omega
  · rcases key i g e with a1 | ⟨a1, a2⟩
    · have := h.hi i g a1; omega
    · subst a1
      exact hr.lt e
/-- a run is made anew -/
theorem W3.made {X ra wa : Nat} {pv : Value} {P : List OpZ} (h : W3 w wr a v A B sv sums M G T U ex) (hk : k < 3) (hk1 : Keeps NoS wr w1) (hn : TxNew w1 w2 X ra wa t') (hp : PlanAt w1 pv P) (hpl : ∀ g, pv.ownBlock = some g → wr.heap.size ≤ g ∧ g < w1.heap.size) :
    ∃ G', W3 w ((w2.alloc (.cells (ruC X pv (.slice none 0 0) (run0 P)) 45)).setCell ⟨A, k, none⟩ (.pointer (some ⟨w2.heap.size, 0, none⟩))) a v A B sv sums M G' (put3 T k t') (put3 U k (run0 P)) (put3 ex k true) := by
  have hm1 := h.mm.keep hk1 (fun f => f) (fun _ _ f => f)
  have hx := NX.made hm1 hn
  have kk := (Keeps.refl NoS w2).alloc (.cells (ruC X pv (.slice none 0 0) (run0 P)) 45)
  have hsz : (w2.alloc (.cells (ruC X pv (.slice none 0 0) (run0 P)) 45)).heap.size = w2.heap.size + 1 := by simp
  have h3 := ((h.no hk1).no hn.kp).no kk
  obtain ⟨r', hr⟩ : ∃ r' : Rn, r' = ⟨X, ra, wa, w2.heap.size, pv, .slice none 0 0, .slice none 0 0, .slice none 0 0, .slice none 0 0⟩ := ⟨_, rfl⟩
  have hX := hn.hX; have hrr := hn.hr; have hw := hn.hw; have hs1 := hk1.size; have hs2 := hn.kp.size; have hws := h.kp.size
  have hb : ∀ g, own2m a v g → g < wr.heap.size := fun g e => h.hi .mem g e
  have hb2 : ∀ g, txO X ra wa (.slice none 0 0) (.slice none 0 0) (.slice none 0 0) g → w1.heap.size ≤ g ∧ g < w2.heap.size := fun g e => by
    rcases e with z | z | z | z | z | z
    · rw [z]; exact ⟨hX, hx.tx.lt⟩
    · rw [z]; exact ⟨hrr, hx.tx.ralt⟩
    · rw [z]; exact ⟨hw, hx.tx.walt⟩
    · simp [Value.ownBlock] at z
    · simp [Value.ownBlock] at z
    · simp [Value.ownBlock] at z
  have hN : NRr (w2.alloc (.cells (ruC X pv (.slice none 0 0) (run0 P)) 45)) a v M r' t' (run0 P) := by
    rw [hr]
    refine ⟨hx.no kk, heap_alloc_new _ _, (hp.keep hn.kp (fun _ _ f => f)).keep kk (fun _ _ f => f), World.ownsRow_nil _ _ _ _, ?_, fun g e => ⟨?_, ?_, ?_⟩, fun g e => by simp [Value.ownBlock] at e⟩
    · show ¬ (txO X ra wa (.slice none 0 0) (.slice none 0 0) (.slice none 0 0) w2.heap.size ∨ own2m a v w2.heap.size)
      rintro (e | e)
      · have := hb2 _ e; omega
      · have := hb _ e; omega
    · have := (hpl g e).2; omega
    · have := (hpl g e).2; intro z; have z' : g = w2.heap.size := z; omega
    · rintro (e2 | e2)
      · have := hb2 _ e2; have := (hpl g e).2; omega
      · have := hb _ e2; have := (hpl g e).1; omega
  generalize hw3 : w2.alloc (.cells (ruC X pv (.slice none 0 0) (run0 P)) 45) = w3 at *
  have k4 : Keeps (just A) w3 (w3.setCell ⟨A, k, none⟩ (.pointer (some ⟨w2.heap.size, 0, none⟩))) := (Keeps.refl (just A) w3).setCell (p := ⟨A, k, none⟩) (fun _ => rfl) _
  have hAl := h.hi .arr A rfl
  have hlo' : ∀ g, rnO r' g → wr.heap.size ≤ g := fun g e => by
    rw [hr] at e
    rcases e with e | e | e | e
    · have := hb2 _ e; omega
    · have e' : g = w2.heap.size := e; omega
    · simp [Value.ownBlock] at e
    · exact (hpl g e).1
  have hnA : ∀ g, rnO r' g → ¬ just A g := fun g e z => by have z' : g = A := z; have := hlo' g e; omega
  have hn2 : ∀ i g, i ≠ .arr → own3 a v A B sv G ex i g → ¬ just A g := fun i g hi e z => h.ap i .arr g hi e z
  have hmm := h3.mm.keep k4 (hn2 .mem a (by simp) (.inl rfl)) (fun g e => hn2 .mem g (by simp) (.inr e))
  have key : ∀ i g, own3 a v A B sv (put3 G k r') (put3 ex k true) i g → (own3 a v A B sv G ex i g ∧ i ≠ .run k) ∨ (i = .run k ∧ rnO r' g) := by
    intro i g e
    cases i with
    | run j =>
      by_cases hj : j = k
      · subst hj
        obtain ⟨_, _, e⟩ := e
        rw [put3_eq] at e
        exact .inr ⟨rfl, e⟩
      · obtain ⟨q1, q2, e⟩ := e
        rw [put3_ne _ _ hj] at e q2
        exact .inl ⟨⟨q1, q2, e⟩, by simpa using hj⟩
    | mem => exact .inl ⟨e, by simp⟩
    | arr => exact .inl ⟨e, by simp⟩
    | mp => exact .inl ⟨e, by simp⟩
    | sum => exact .inl ⟨e, by simp⟩
  refine ⟨put3 G k r', fun j hj he2 => ?_, hmm, fun i j g hij ei ej => ?_, fun i g e => ?_, fun i g e => ?_, ?_, h3.mp.keep k4 (hn2 .mp B (by simp) rfl), h3.sm.keep k4 (fun g e => hn2 .sum g (by simp) e), h3.kp.trans' k4 (fun i hi e => ?_)⟩
  · by_cases hj2 : j = k
    · subst hj2
      rw [put3_eq, put3_eq, put3_eq]
      exact NR.beside hN k4 hnA hmm
    · rw [put3_ne _ _ hj2] at he2
      rw [put3_ne _ _ hj2, put3_ne _ _ hj2, put3_ne _ _ hj2]
      exact NR.beside (h3.rn j hj he2) k4 (fun g e => hn2 (.run j) g (by simp) ⟨hj, he2, e⟩) hmm
  · rcases key i g ei with ⟨a1, _⟩ | ⟨a1, a2⟩ <;> rcases key j g ej with ⟨b1, _⟩ | ⟨b1, b2⟩
    · exact h.ap i j g hij a1 b1
    · have := h.hi i g a1; have := hlo' g b2; omega
    · have := h.hi j g b1; have := hlo' g a2; omega
    · exact hij (a1.trans b1.symm)
  · rcases key i g e with ⟨a1, _⟩ | ⟨_, a2⟩
    · exact h.lo i g a1
    · have := hlo' g a2; omega
  · have hs4 := k4.size
    rcases key i g e with ⟨a1, _⟩ | ⟨a1, a2⟩
    · have := h3.hi i g a1; omega
    · have := NR.rlt hN a2; omega
  · obtain ⟨TT, z⟩ := h3.arr
    refine ⟨TT, ?_⟩
    have z2 := blk_set z k (.pointer (some ⟨w2.heap.size, 0, none⟩))
    rw [z2]
    have e0 : pc (put3 G k r') (put3 ex k true) k = .pointer (some ⟨w2.heap.size, 0, none⟩) := by
      unfold pc
      rw [put3_eq, put3_eq, hr]; rfl
    have e1 : ∀ j, j ≠ k → pc (put3 G k r') (put3 ex k true) j = pc G ex j := fun j hj => by
      unfold pc
      rw [put3_ne _ _ hj, put3_ne _ _ hj]
    rcases (show k = 0 ∨ k = 1 ∨ k = 2 by omega) with rfl | rfl | rfl
    · rw [e0, e1 1 (by decide), e1 2 (by decide)]; rfl
    · rw [e0, e1 0 (by decide), e1 2 (by decide)]; rfl
    · rw [e0, e1 0 (by decide), e1 1 (by decide)]; rfl
  · have e' : i = A := e
    have := h.lo .arr A rfl
    omega
/-- at the beginning -/
theorem W3.first (hk : Keeps NoS w wr) (hm : MemAt wr a v M) (hB : MapAt wr B 3 1 3 0 4) (hA : ∃ T, wr.heap[A]? = some (.cells #[.pointer none, .pointer none, .pointer none] T (0, 0)))
    (l1 : w.heap.size ≤ A) (l2 : w.heap.size ≤ B) (l3 : ∀ g, own2m a v g → w.heap.size ≤ g) (n1 : A ≠ B) (n2 : ¬ own2m a v A) (n3 : ¬ own2m a v B) :
    W3 w wr a v A B (.slice none 0 0) [] M (fun _ => ⟨0, 0, 0, 0, .slice none 0 0, .slice none 0 0, .slice none 0 0, .slice none 0 0, .slice none 0 0⟩) T U (fun _ => false) := by
  have hA2 : A < wr.heap.size := by obtain ⟨_, z⟩ := hA; exact blk_lt z
  have hB2 : B < wr.heap.size := World.block_lt_of_cell? wr ⟨B, 0, none⟩ hB.1
  refine ⟨fun k hk he => (by cases he), hm, fun i j g hij ei ej => ?_, fun i g e => ?_, fun i g e => ?_, hA, hB, RowI.nil _ _ _, hk⟩
  · cases i with
    | run k => cases ei.2.1
    | sum => simp [own3, Value.ownBlock] at ei
    | mem => cases j with
      | run k => cases ej.2.1
      | sum => simp [own3, Value.ownBlock] at ej
      | mem => exact hij rfl
      | arr => have e : g = A := ej; subst e; exact n2 ei
      | mp => have e : g = B := ej; subst e; exact n3 ei
    | arr => have e : g = A := ei; subst e; cases j with
      | run k => cases ej.2.1
      | sum => simp [own3, Value.ownBlock] at ej
      | mem => exact n2 ej
      | arr => exact hij rfl
      | mp => exact n1 ej
    | mp => have e : g = B := ei; subst e; cases j with
      | run k => cases ej.2.1
      | sum => simp [own3, Value.ownBlock] at ej
      | mem => exact n3 ej
      | arr => exact n1 ej.symm
      | mp => exact hij rfl
  · cases i with
    | run k => cases e.2.1
    | sum => simp [own3, Value.ownBlock] at e
    | mem => exact l3 g e
    | arr => have e : g = A := e; rw [e]; exact l1
    | mp => have e : g = B := e; rw [e]; exact l2
  · cases i with
    | run k => cases e.2.1
    | sum => simp [own3, Value.ownBlock] at e
    | mem => rcases e with e | e
             · rw [e]; exact blk_lt hm.hd
             · exact hm.own_lt e
    | arr => have e : g = A := e; rw [e]; exact hA2
    | mp => have e : g = B := e; rw [e]; exact hB2
theorem W3.cA (h : W3 w wr a v A B sv sums M G T U ex) (hk : k < 3) : wr.cell? ⟨A, k, none⟩ = some (pc G ex k) ∧ wr.frozen? ⟨A, k, none⟩ = false ∧ A < wr.heap.size := by
  obtain ⟨TT, z⟩ := h.arr
  refine ⟨?_, blk_free z k, blk_lt z⟩
  rw [blk_cell z]
  rcases (show k = 0 ∨ k = 1 ∨ k = 2 by omega) with rfl | rfl | rfl <;> rfl
theorem W3.cP (h : W3 w wr a v A B sv sums M G T U ex) (hk : k < 3) (he : ex k = true) : wr.cell? ⟨A, k, none⟩ = some (.pointer (some ⟨(G k).U, 0, none⟩)) := by
  rw [(h.cA hk).1]; unfold pc; rw [he]; rfl
theorem W3.s31 (h : W3 w wr a v A B sv sums M G T U ex) (hk : k < 3) (he : ex k = true) {u0 : Nat} (hu : (G k).U = u0) : wr.cell? ⟨A, k, none⟩ = some (.pointer (some ⟨u0, 0, none⟩)) ∧ A < wr.heap.size ∧ B < wr.heap.size ∧ wr.cell? ⟨B, 0, none⟩ = some (.int .i64 3) ∧ wr.cell? ⟨B, 1, none⟩ = some (.int .i64 1) ∧ wr.cell? ⟨B, 2, none⟩ = some (.int .i64 3) ∧ wr.cell? ⟨B, 3, none⟩ = some (.int .i64 0) ∧ wr.cell? ⟨B, 4, none⟩ = some (.int .i64 4) := by
  subst hu
  exact ⟨h.cP hk he, (h.cA hk).2.2, h.hi .mp B rfl, h.mp⟩
theorem W3.cN (h : W3 w wr a v A B sv sums M G T U ex) (hk : k < 3) (he : ex k = false) : wr.cell? ⟨A, k, none⟩ = some (.pointer none) := by
  rw [(h.cA hk).1]; unfold pc; rw [he]; rfl
end
/-- the memory behind the law's first stores -/
def md : Nat → MemS
  | 0 => M0 34
  | d + 1 => (md d).storeI (dA d) 10
theorem md_len : ∀ d, (md d).L.length = 34
  | 0 => M0_len 34
  | d + 1 => (storeI_len _ _ _).trans (md_len d)
theorem md4 : (md 4).atP 1 = 0 ∧ (md 4).atP 11 = 0 ∧ (md 4).atP 13 = 0 ∧ (md 4).atP 15 = 0 ∧ D4 (md 4).atP = 40 := ⟨by kernel_rfl, by kernel_rfl, by kernel_rfl, by kernel_rfl, by kernel_rfl⟩
theorem md_first (len : Nat) : Sy len 0 (md 4) (fun k => tx0 k) (fun _ => { run0 [] with fin := 1 }) (fun _ => []) (fun _ => false) := by
  obtain ⟨a, b, c, d, e⟩ := md4
  refine Sy.first (md_len 4) a (fun k hk => ?_) e len
  rcases (show k = 0 ∨ k = 1 ∨ k = 2 by omega) with rfl | rfl | rfl
  · exact b
  · exact c
  · exact d
end Go.Proofs.Ytfmamedkiaimpaa
