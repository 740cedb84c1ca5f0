/- NorecTwo: two attempts of each kind, two memories, the law's own rows: what stands in a world, and how it goes on. -/
import Derived.Test.YtlcmnhfiggkmnaaGreatDxH
import Derived.Test.YtlcmnhfiggkmnaaGreatHeldT
import Derived.Deep.QuietTactic
import Derived.BigQuiet
import Derived.Test.YtlcmnhfiggkmnaaGreatTxTI
import Derived.Test.YtlcmnhfiggkmnaaGreatLaw8
import Derived.Test.YtlcmnhfiggkmnaaGreatIn3
import Derived.Test.YtlcmnhfiggkmnaaGreatMemSame
namespace Go.Proofs.YtlcmnhfiggkmnaaGreat
open Go.RowKit
theorem TxAt.olt {w : World} {X ra wa : Nat} {rv wv vv : Value} {t : TxS} (h : TxAt w X ra wa rv wv vv t) {g : Nat} (e : txO X ra wa rv wv vv g) : g < w.heap.size := by
  rcases e with e | e | e | e | e | e
  · rw [e]; exact h.lt
  · rw [e]; exact h.ralt
  · rw [e]; exact h.walt
  · exact h.rvlt e
  · exact h.wvlt e
  · exact h.vvlt e
def fput {α : Type} (f : Nat → α) (k : Nat) (x : α) : Nat → α := fun j => if j = k then x else f j
theorem fput_same {α : Type} (f : Nat → α) (k : Nat) (x : α) : fput f k x k = x := if_pos rfl
theorem fput_other {α : Type} (f : Nat → α) (k : Nat) (x : α) {j : Nat} (h : j ≠ k) : fput f k x j = f j := if_neg h
inductive Ow
  | tx (t : Nat)
  | dx (t : Nat)
  | ma
  | mc
  | ea
  | eb
  | fx
structure TwP where
  X : Nat → Nat
  ra : Nat → Nat
  wa : Nat → Nat
  Y : Nat → Nat
  a : Nat
  v : Value
  c : Nat
  u : Value
  EA : Nat
  EB : Nat
  XA : Nat
  YA : Nat
  PL : Nat
  B : Nat
structure TwV where
  rv : Nat → Value
  wv : Nat → Value
  vv : Nat → Value
  pv : Nat → Value
  qv : Nat → Value
def ownW (P : TwP) (V : TwV) : Ow → Nat → Prop
  | .tx t, g => t < 2 ∧ txO (P.X t) (P.ra t) (P.wa t) (V.rv t) (V.wv t) (V.vv t) g
  | .dx t, g => t < 2 ∧ dxO (P.Y t) (V.pv t) (V.qv t) g
  | .ma, g => own2m P.a P.v g
  | .mc, g => own2m P.c P.u g
  | .ea, g => g = P.EA
  | .eb, g => g = P.EB
  | .fx, g => g = P.XA ∨ g = P.YA ∨ g = P.PL ∨ g = P.B
structure WL (w wr : World) (P : TwP) (V : TwV) (Ma Mr : MemS) (t : Nat → TxS) (d : Nat → DxS) (at_ bu : Nat → Int) (sl : Nat → Value) : Prop where
  tx : ∀ k, k < 2 → TxAt wr (P.X k) (P.ra k) (P.wa k) (V.rv k) (V.wv k) (V.vv k) (t k)
  dx : ∀ k, k < 2 → DxAt wr (P.Y k) (V.pv k) (V.qv k) (d k)
  mm : MemAt wr P.a P.v Ma
  mr : RefAt wr P.c P.u Mr
  ap : ∀ i j g, i ≠ j → ownW P V i g → ownW P V j g → False
  lo : ∀ i g, ownW P V i g → w.heap.size ≤ g
  hi : ∀ i g, ownW P V i g → g < wr.heap.size
  ea : ∃ T, wr.heap[P.EA]? = some (.cells #[.int .i64 (at_ 0), .int .i64 (at_ 1)] T (0, 0))
  eb : ∃ T, wr.heap[P.EB]? = some (.cells #[.int .i64 (bu 0), .int .i64 (bu 1)] T (0, 0))
  xa : ∃ T, wr.heap[P.XA]? = some (.cells #[.pointer (some ⟨P.X 0, 0, none⟩), .pointer (some ⟨P.X 1, 0, none⟩)] T (0, 0))
  ya : ∃ T, wr.heap[P.YA]? = some (.cells #[.pointer (some ⟨P.Y 0, 0, none⟩), .pointer (some ⟨P.Y 1, 0, none⟩)] T (0, 0))
  pl : ∃ T, wr.heap[P.PL]? = some (.cells #[sl 0, sl 1] T (0, 0))
  mb : MapAt wr P.B 3 1 3 0 4
  kp : Keeps NoS w wr
section
variable {w wr w2 : World} {P : TwP} {V : TwV} {Ma Mr M' : MemS} {t : Nat → TxS} {d : Nat → DxS} {at_ bu : Nat → Int} {sl : Nat → Value} {t' : TxS} {d' : DxS}
theorem WL.nx (h : WL w wr P V Ma Mr t d at_ bu sl) {k : Nat} (hk : k < 2) : NX wr P.a P.v Ma (P.X k) (P.ra k) (P.wa k) (V.rv k) (V.wv k) (V.vv k) (t k) :=
  ⟨h.tx k hk, h.mm, fun g e e2 => h.ap .ma (.tx k) g (by simp) e ⟨hk, e2⟩⟩
theorem WL.dxx (h : WL w wr P V Ma Mr t d at_ bu sl) {k : Nat} (hk : k < 2) : DX wr P.c P.u Mr (P.Y k) (V.pv k) (V.qv k) (d k) :=
  ⟨h.dx k hk, h.mr, fun g e e2 => h.ap .mc (.dx k) g (by simp) e ⟨hk, e2⟩⟩
theorem WL.no (h : WL w wr P V Ma Mr t d at_ bu sl) (k : Keeps NoS wr w2) : WL w w2 P V Ma Mr t d at_ bu sl :=
  ⟨fun j hj => (h.tx j hj).no k, fun j hj => (h.dx j hj).no k, h.mm.keep k (fun f => f) (fun _ _ f => f), h.mr.keep k (fun f => f) (fun _ _ f => f), h.ap, h.lo, fun i g e => Nat.lt_of_lt_of_le (h.hi i g e) k.size,
    h.ea.imp fun T z => k.blk z (fun f => f), h.eb.imp fun T z => k.blk z (fun f => f), h.xa.imp fun T z => k.blk z (fun f => f), h.ya.imp fun T z => k.blk z (fun f => f), h.pl.imp fun T z => k.blk z (fun f => f), h.mb.keep k (fun f => f), h.kp.trans k⟩
theorem WL.txStep3 (h : WL w wr P V Ma Mr t d at_ bu sl) {k : Nat} (hk : k < 2) (s : NXP wr w2 P.a P.v M' (P.X k) (P.ra k) (P.wa k) (V.rv k) (V.wv k) (V.vv k) t') :
    ∃ V', WL w w2 P V' M' Mr (fput t k t') d at_ bu sl ∧ V'.pv = V.pv ∧ V'.qv = V.qv := by
  obtain ⟨rv', wv', vv', h1, h2, h3⟩ := s
  have hs := h2.size
  have hws := h.kp.size
  have hn : ∀ i g, i ≠ .tx k → i ≠ .ma → ownW P V i g → ¬ (txO (P.X k) (P.ra k) (P.wa k) (V.rv k) (V.wv k) (V.vv k) g ∨ own2m P.a P.v g) := fun i g hi hm e e2 =>
    e2.elim (fun e2 => h.ap i (.tx k) g hi e ⟨hk, e2⟩) (fun e2 => h.ap i .ma g hm e e2)
  have key : ∀ i g, ownW P { V with rv := fput V.rv k rv', wv := fput V.wv k wv', vv := fput V.vv k vv' } i g → ownW P V i g ∨ (i = .tx k ∧ wr.heap.size ≤ g) := by
    intro i g e
    cases i with
    | tx j =>
      by_cases hj : j = k
      · subst hj
        obtain ⟨_, e⟩ := e
        dsimp only at e
        rw [fput_same, fput_same, fput_same] at e
        rcases h3 g e with e | e
        · exact .inl ⟨hk, e⟩
        · exact .inr ⟨rfl, e⟩
      · obtain ⟨hj2, e⟩ := e
        dsimp only at e
        rw [fput_other _ _ _ hj, fput_other _ _ _ hj, fput_other _ _ _ hj] at e
        exact .inl ⟨hj2, e⟩
    | dx j => exact .inl e
    | ma => exact .inl e
    | mc => exact .inl e
    | ea => exact .inl e
    | eb => exact .inl e
    | fx => exact .inl e
  refine ⟨{ V with rv := fput V.rv k rv', wv := fput V.wv k wv', vv := fput V.vv k vv' }, ⟨fun j hj => ?_, fun j hj => (h.dx j hj).keep h2 (fun g e => hn (.dx j) g (by simp) (by simp) ⟨hj, e⟩), h1.mm, h.mr.keep h2 (hn .mc P.c (by simp) (by simp) (.inl rfl)) (fun g e => hn .mc g (by simp) (by simp) (.inr e)), fun i j g hij ei ej => ?_, fun i g e => ?_, fun i g e => ?_,
    h.ea.imp fun T z => h2.blk z (hn .ea _ (by simp) (by simp) rfl), h.eb.imp fun T z => h2.blk z (hn .eb _ (by simp) (by simp) rfl), h.xa.imp fun T z => h2.blk z (hn .fx _ (by simp) (by simp) (.inl rfl)), h.ya.imp fun T z => h2.blk z (hn .fx _ (by simp) (by simp) (.inr (.inl rfl))), h.pl.imp fun T z => h2.blk z (hn .fx _ (by simp) (by simp) (.inr (.inr (.inl rfl)))), h.mb.keep h2 (hn .fx _ (by simp) (by simp) (.inr (.inr (.inr rfl)))), h.kp.trans' h2 (fun i hi e => ?_)⟩, rfl, rfl⟩
  · by_cases hj2 : j = k
    · subst hj2
      dsimp only
      rw [fput_same, fput_same, fput_same, fput_same]
      exact h1.tx
    · dsimp only
      rw [fput_other _ _ _ hj2, fput_other _ _ _ hj2, fput_other _ _ _ hj2, fput_other _ _ _ hj2]
      exact (h.tx j hj).keep h2 (fun g e => hn (.tx j) g (by simpa using hj2) (by simp) ⟨hj, e⟩)
  · rcases key i g ei with a1 | ⟨a1, a2⟩ <;> rcases key j g ej with b1 | ⟨b1, b2⟩
    · exact h.ap i j g hij a1 b1
    · have := h.hi i g a1; omega
    · have := h.hi j g b1; omega
    · exact hij (a1.trans b1.symm)
  · rcases key i g e with a1 | ⟨_, a2⟩
    · exact h.lo i g a1
    · omega
  · rcases key i g e with a1 | ⟨a1, a2⟩
    · have := h.hi i g a1; omega
    · subst a1
      obtain ⟨_, e⟩ := e
      dsimp only at e
      rw [fput_same, fput_same, fput_same] at e
      exact h1.tx.olt e
  · rcases e with e | e
    · exact absurd (h.lo (.tx k) i ⟨hk, e⟩) (by omega)
    · exact absurd (h.lo .ma i e) (by omega)
theorem WL.txStep (h : WL w wr P V Ma Mr t d at_ bu sl) {k : Nat} (hk : k < 2) (s : NXP wr w2 P.a P.v M' (P.X k) (P.ra k) (P.wa k) (V.rv k) (V.wv k) (V.vv k) t') :
    ∃ V', WL w w2 P V' M' Mr (fput t k t') d at_ bu sl := by
  obtain ⟨V', h1, _⟩ := h.txStep3 hk s
  exact ⟨V', h1⟩
theorem WL.dxStep (h : WL w wr P V Ma Mr t d at_ bu sl) {k : Nat} (hk : k < 2) (s : DXP wr w2 P.c P.u M' (P.Y k) (V.pv k) (V.qv k) d') :
    ∃ V', WL w w2 P V' Ma M' t (fput d k d') at_ bu sl := by
  obtain ⟨pv', qv', h1, h2, h3⟩ := s
  have hs := h2.size
  have hws := h.kp.size
  have hn : ∀ i g, i ≠ .dx k → i ≠ .mc → ownW P V i g → ¬ (dxO (P.Y k) (V.pv k) (V.qv k) g ∨ own2m P.c P.u g) := fun i g hi hm e e2 =>
    e2.elim (fun e2 => h.ap i (.dx k) g hi e ⟨hk, e2⟩) (fun e2 => h.ap i .mc g hm e e2)
  have key : ∀ i g, ownW P { V with pv := fput V.pv k pv', qv := fput V.qv k qv' } i g → ownW P V i g ∨ (i = .dx k ∧ wr.heap.size ≤ g) := by
    intro i g e
    cases i with
    | dx j =>
      by_cases hj : j = k
      · subst hj
        obtain ⟨_, e⟩ := e
        dsimp only at e
        rw [fput_same, fput_same] at e
        rcases h3 g e with e | e
        · exact .inl ⟨hk, e⟩
        · exact .inr ⟨rfl, e⟩
      · obtain ⟨hj2, e⟩ := e
        dsimp only at e
        rw [fput_other _ _ _ hj, fput_other _ _ _ hj] at e
        exact .inl ⟨hj2, e⟩
    | tx j => exact .inl e
    | ma => exact .inl e
    | mc => exact .inl e
    | ea => exact .inl e
    | eb => exact .inl e
    | fx => exact .inl e
  refine ⟨{ V with pv := fput V.pv k pv', qv := fput V.qv k qv' }, ⟨fun j hj => (h.tx j hj).keep h2 (fun g e => hn (.tx j) g (by simp) (by simp) ⟨hj, e⟩), fun j hj => ?_, h.mm.keep h2 (hn .ma P.a (by simp) (by simp) (.inl rfl)) (fun g e => hn .ma g (by simp) (by simp) (.inr e)), h1.mm, fun i j g hij ei ej => ?_, fun i g e => ?_, fun i g e => ?_,
    h.ea.imp fun T z => h2.blk z (hn .ea _ (by simp) (by simp) rfl), h.eb.imp fun T z => h2.blk z (hn .eb _ (by simp) (by simp) rfl), h.xa.imp fun T z => h2.blk z (hn .fx _ (by simp) (by simp) (.inl rfl)), h.ya.imp fun T z => h2.blk z (hn .fx _ (by simp) (by simp) (.inr (.inl rfl))), h.pl.imp fun T z => h2.blk z (hn .fx _ (by simp) (by simp) (.inr (.inr (.inl rfl)))), h.mb.keep h2 (hn .fx _ (by simp) (by simp) (.inr (.inr (.inr rfl)))), h.kp.trans' h2 (fun i hi e => ?_)⟩⟩
  · by_cases hj2 : j = k
    · subst hj2
      dsimp only
      rw [fput_same, fput_same, fput_same]
      exact h1.tx
    · dsimp only
      rw [fput_other _ _ _ hj2, fput_other _ _ _ hj2, fput_other _ _ _ hj2]
      exact (h.dx j hj).keep h2 (fun g e => hn (.dx j) g (by simpa using hj2) (by simp) ⟨hj, e⟩)
  · rcases key i g ei with a1 | ⟨a1, a2⟩ <;> rcases key j g ej with b1 | ⟨b1, b2⟩
    · exact h.ap i j g hij a1 b1
    · have := h.hi i g a1; omega
    · have := h.hi j g b1; omega
    · exact hij (a1.trans b1.symm)
  · rcases key i g e with a1 | ⟨_, a2⟩
    · exact h.lo i g a1
    · omega
  · rcases key i g e with a1 | ⟨a1, a2⟩
    · have := h.hi i g a1; omega
    · subst a1
      obtain ⟨_, e⟩ := e
      dsimp only at e
      rw [fput_same, fput_same] at e
      exact h1.tx.olt e
  · rcases e with e | e
    · exact absurd (h.lo (.dx k) i ⟨hk, e⟩) (by omega)
    · exact absurd (h.lo .mc i e) (by omega)
/-- a block of the law's own is laid anew -/
theorem WL.far (h : WL w wr P V Ma Mr t d at_ bu sl) (i0 : Ow) (hi0 : ∀ k, i0 ≠ .tx k ∧ i0 ≠ .dx k) (hm : i0 ≠ .ma ∧ i0 ≠ .mc ∧ i0 ≠ .fx) (k2 : Keeps (fun g => ownW P V i0 g) wr w2) {at2 bu2 : Nat → Int}
    (hea : ∃ T, w2.heap[P.EA]? = some (.cells #[.int .i64 (at2 0), .int .i64 (at2 1)] T (0, 0))) (heb : ∃ T, w2.heap[P.EB]? = some (.cells #[.int .i64 (bu2 0), .int .i64 (bu2 1)] T (0, 0))) : WL w w2 P V Ma Mr t d at2 bu2 sl := by
  have hn : ∀ i g, i ≠ i0 → ownW P V i g → ¬ ownW P V i0 g := fun i g hi e e2 => h.ap i i0 g hi e e2
  exact ⟨fun j hj => (h.tx j hj).keep k2 (fun g e => hn (.tx j) g (hi0 j).1.symm ⟨hj, e⟩), fun j hj => (h.dx j hj).keep k2 (fun g e => hn (.dx j) g (hi0 j).2.symm ⟨hj, e⟩),
    h.mm.keep k2 (hn .ma _ hm.1.symm (.inl rfl)) (fun g e => hn .ma g hm.1.symm (.inr e)), h.mr.keep k2 (hn .mc _ hm.2.1.symm (.inl rfl)) (fun g e => hn .mc g hm.2.1.symm (.inr e)), h.ap, h.lo, fun i g e => Nat.lt_of_lt_of_le (h.hi i g e) k2.size, hea, heb,
    h.xa.imp fun T z => k2.blk z (hn .fx _ hm.2.2.symm (.inl rfl)), h.ya.imp fun T z => k2.blk z (hn .fx _ hm.2.2.symm (.inr (.inl rfl))), h.pl.imp fun T z => k2.blk z (hn .fx _ hm.2.2.symm (.inr (.inr (.inl rfl)))), h.mb.keep k2 (hn .fx _ hm.2.2.symm (.inr (.inr (.inr rfl)))),
    h.kp.trans' k2 (fun i hi e => absurd (h.lo i0 i e) (by omega))⟩
theorem two_set {w : World} {E : Nat} {T : TypeId} {f : Nat → Int} (h : w.heap[E]? = some (.cells #[.int .i64 (f 0), .int .i64 (f 1)] T (0, 0))) {k : Nat} (hk : k < 2) (x : Int) :
    (w.setCell ⟨E, k, none⟩ (.int .i64 x)).heap[E]? = some (.cells #[.int .i64 (fput f k x 0), .int .i64 (fput f k x 1)] T (0, 0)) := by
  rw [blk_set h k]
  rcases (show k = 0 ∨ k = 1 by omega) with rfl | rfl <;> rfl
theorem WL.setA (h : WL w wr P V Ma Mr t d at_ bu sl) {k : Nat} (hk : k < 2) (x : Int) : WL w (wr.setCell ⟨P.EA, k, none⟩ (.int .i64 x)) P V Ma Mr t d (fput at_ k x) bu sl := by
  have k2 : Keeps (fun g => ownW P V .ea g) wr (wr.setCell ⟨P.EA, k, none⟩ (.int .i64 x)) := (Keeps.refl (fun g => ownW P V .ea g) wr).setCell (p := ⟨P.EA, k, none⟩) (fun _ => rfl) _
  exact h.far .ea (fun _ => ⟨by simp, by simp⟩) ⟨by simp, by simp, by simp⟩ k2 (h.ea.imp fun T z => two_set z hk x) (h.eb.imp fun T z => k2.blk z (fun e => h.ap .eb .ea P.EB (by simp) rfl e))
theorem WL.setB (h : WL w wr P V Ma Mr t d at_ bu sl) {k : Nat} (hk : k < 2) (x : Int) : WL w (wr.setCell ⟨P.EB, k, none⟩ (.int .i64 x)) P V Ma Mr t d at_ (fput bu k x) sl := by
  have k2 : Keeps (fun g => ownW P V .eb g) wr (wr.setCell ⟨P.EB, k, none⟩ (.int .i64 x)) := (Keeps.refl (fun g => ownW P V .eb g) wr).setCell (p := ⟨P.EB, k, none⟩) (fun _ => rfl) _
  exact h.far .eb (fun _ => ⟨by simp, by simp⟩) ⟨by simp, by simp, by simp⟩ k2 (h.ea.imp fun T z => k2.blk z (fun e => h.ap .ea .eb P.EA (by simp) rfl e)) (h.eb.imp fun T z => two_set z hk x)
/-- the cells that the law reads -/
theorem two_cell {w : World} {E : Nat} {T : TypeId} {f : Nat → Value} (h : w.heap[E]? = some (.cells #[f 0, f 1] T (0, 0))) {k : Nat} (hk : k < 2) : w.cell? ⟨E, k, none⟩ = some (f k) ∧ w.frozen? ⟨E, k, none⟩ = false ∧ E < w.heap.size := by
  refine ⟨?_, blk_free h k, blk_lt h⟩
  rw [blk_cell h]
  rcases (show k = 0 ∨ k = 1 by omega) with rfl | rfl <;> rfl
theorem WL.cA (h : WL w wr P V Ma Mr t d at_ bu sl) {k : Nat} (hk : k < 2) : wr.cell? ⟨P.EA, k, none⟩ = some (.int .i64 (at_ k)) ∧ wr.frozen? ⟨P.EA, k, none⟩ = false ∧ P.EA < wr.heap.size := by
  obtain ⟨T, z⟩ := h.ea; exact two_cell (f := fun j => .int .i64 (at_ j)) z hk
theorem WL.cB (h : WL w wr P V Ma Mr t d at_ bu sl) {k : Nat} (hk : k < 2) : wr.cell? ⟨P.EB, k, none⟩ = some (.int .i64 (bu k)) ∧ wr.frozen? ⟨P.EB, k, none⟩ = false ∧ P.EB < wr.heap.size := by
  obtain ⟨T, z⟩ := h.eb; exact two_cell (f := fun j => .int .i64 (bu j)) z hk
theorem WL.cX (h : WL w wr P V Ma Mr t d at_ bu sl) {k : Nat} (hk : k < 2) : wr.cell? ⟨P.XA, k, none⟩ = some (.pointer (some ⟨P.X k, 0, none⟩)) := by
  obtain ⟨T, z⟩ := h.xa; exact (two_cell (f := fun j => .pointer (some ⟨P.X j, 0, none⟩)) z hk).1
theorem WL.cY (h : WL w wr P V Ma Mr t d at_ bu sl) {k : Nat} (hk : k < 2) : wr.cell? ⟨P.YA, k, none⟩ = some (.pointer (some ⟨P.Y k, 0, none⟩)) := by
  obtain ⟨T, z⟩ := h.ya; exact (two_cell (f := fun j => .pointer (some ⟨P.Y j, 0, none⟩)) z hk).1
theorem WL.cP (h : WL w wr P V Ma Mr t d at_ bu sl) {k : Nat} (hk : k < 2) : wr.cell? ⟨P.PL, k, none⟩ = some (sl k) := by
  obtain ⟨T, z⟩ := h.pl; exact (two_cell (f := sl) z hk).1
end
/-- what both attempts are (plain) -/
structure TwI (n : Nat → Nat) (M : MemS) (t : Nat → TxS) (d : Nat → DxS) (at_ bu : Nat → Int) : Prop where
  sim : ∀ k, k < 2 → Sim (t k) (d k)
  ti : ∀ k, k < 2 → TI (t k)
  di : ∀ k, k < 2 → 0 ≤ (d k).i
  len : M.L.length = 34
  a0 : ∀ k, k < 2 → 0 ≤ at_ k ∧ at_ k ≤ (n k : Int) + 2
  b0 : ∀ k, k < 2 → bu k = 0 ∨ bu k = 1
  ab : ∀ k, k < 2 → bu k = 0 → at_ k ≤ (n k : Int) + 1
theorem abortD_i (d : DxS) (x : Int) : (abortD d x).1.i = 0 := by unfold abortD; split <;> rfl
theorem seatD_i (d : DxS) (h : 0 ≤ d.i) : 0 ≤ (seatD d).1.i := by
  unfold seatD; split
  · rw [abortD_i]; exact Int.le_refl _
  · exact h
theorem sureD_i (d : DxS) (h : 0 ≤ d.i) : 0 ≤ (sureD d).1.i := by
  unfold sureD; split
  · exact Int.le_refl _
  · exact h
theorem lookedD_i (M : MemS) (d : DxS) (h : 0 ≤ d.i) : 0 ≤ (lookedD M d).2.1.i := by
  unfold lookedD
  split
  · dsimp only; split <;> exact h
  · split
    · dsimp only; split <;> exact h
    · dsimp only; split <;> exact h
theorem stepD_i (M : MemS) (d : DxS) (h : 0 ≤ d.i) : 0 ≤ (stepD M d).2.1.i := by
  have hab : ∀ (d : DxS) (x : Int), 0 ≤ (abortD d x).1.i := fun d x => by rw [abortD_i]; exact Int.le_refl _
  have hlk := lookedD_i M d h
  unfold stepD
  split
  · unfold stepBeginD; dsimp only; split <;> exact h
  · split
    · unfold stepReadD
      split
      · dsimp only; split
        · exact hab _ _
        · exact hlk
      · split
        · exact h
        · dsimp only; split <;> exact h
    · split
      · unfold stepCommitD
        split
        · dsimp only; split
          · exact seatD_i _ (Int.le_refl _)
          · exact sureD_i _ (Int.le_refl _)
        · split
          · unfold takeD
            split
            · dsimp only; split
              · exact seatD_i _ hlk
              · split
                · exact hab _ _
                · exact hlk
            · dsimp only; split
              · exact sureD_i _ (Int.le_refl _)
              · exact h
          · unfold writesD
            split
            · dsimp only; split
              · exact Int.le_refl _
              · show (0 : Int) ≤ d.i + 1; omega
            · split
              · exact h
              · exact h
      · split
        · unfold stepUndoD undoneD
          split
          · dsimp only; split <;> exact h
          · dsimp only; split <;> exact h
        · exact h
theorem beginD_i (d : DxS) (h : 0 ≤ d.i) : 0 ≤ (beginD d).1.i := by
  unfold beginD; split
  · exact h
  · exact Int.le_refl _
theorem readD_i (d : DxS) (p : Int) (h : 0 ≤ d.i) : 0 ≤ (readD d p).1.i := by
  unfold readD
  split
  · split
    · split
      · exact Int.le_refl _
      · split
        · exact Int.le_refl _
        · rw [abortD_i]; exact Int.le_refl _
    · rw [abortD_i]; exact Int.le_refl _
  · exact h
theorem writeD_i (d : DxS) (p x : Int) (h : 0 ≤ d.i) : 0 ≤ (writeD d p x).1.i := by
  unfold writeD
  split
  · split
    · split
      · exact h
      · rw [abortD_i]; exact Int.le_refl _
    · rw [abortD_i]; exact Int.le_refl _
  · exact h
theorem commitD_i (d : DxS) (h : 0 ≤ d.i) : 0 ≤ (commitAskD d).1.i := by
  unfold commitAskD; split
  · exact Int.le_refl _
  · exact h
end Go.Proofs.YtlcmnhfiggkmnaaGreat
namespace Go.Proofs.YtlcmnhfiggkmnaaGreat
open Go.RowKit
theorem keysOf_at (l : List (Int × Int)) (k : Nat) (h : k < l.length) : (keysOf l)[k]? = some (.int .i64 (l.getD k (0, 0)).1) := by
  rw [getD_at _ _ _ h]; simp [keysOf, h]
set_option maxHeartbeats 8000000 in
set_option maxRecDepth 100000 in
theorem xlike_any {w : World} {a X ra wa c Y : Nat} {v rv wv vv u pv qv : Value} {M M' : MemS} {t : TxS} {d : DxS} (hx : NX w a v M X ra wa rv wv vv t) (hy : DX w c u M' Y pv qv d) (hs : Sim t d) :
    Calls Tryz.prog 21 #[.pointer (some ⟨X, 0, none⟩), .pointer (some ⟨Y, 0, none⟩)] w fun e w' => e = .returned (.bool true) ∧ Keeps NoS w w' := by
  have HSM := Lib.hid hs
  have hrl := hs.rl; have hwl := hs.wl
  have hR := hs.R; have hW := hs.W
  rw [← hR] at hrl
  rw [← hW] at hwl
  clear hs hR hW
  go_enter Tryz.func21, Tryz.ntmps21
  go_upto_region 1 with fail
  have hxd := hx.no ((Keeps.refl NoS w).drew)
  have hyd := hy.no ((Keeps.refl NoS w).drew)
  clear hx hy
  refine wp_region_held_drew (S := (fun w' => w'.cell? ⟨Y, 28, none⟩ = some (.int .i64 d.val) ∧ w'.cell? ⟨Y, 31, none⟩ = some (.int .i64 d.cause) ∧ w'.cell? ⟨Y, 29, none⟩ = some (.int .i64 d.stamp) ∧ w'.cell? ⟨Y, 30, none⟩ = some (.int .i64 d.made) ∧ w'.cell? ⟨Y, 16, none⟩ = some (.bool d.sure))) (by kernel_rfl) (⟨hyd.tx.c 28 rfl, hyd.tx.c 31 rfl, hyd.tx.c 29 rfl, hyd.tx.c 30 rfl, hyd.tx.c 16 rfl⟩) (fun hHeld => ?_)
  refine wpAnyH_take (i := 0) (v := ?_) (by simp only [List.getElem?_toArray, List.getElem?_cons_succ, List.getElem?_cons_zero]; rfl) (by kernel_rfl) (by kernel_rfl) (by kernel_rfl) (by exact fun _ _ _ h => h) (Or.inl ⟨by rfl, ?_⟩) hHeld ?_
  rotate_left
  · intro w hSw; (try dsimp only at hSw); go_simp; (try with_reducible rfl)
  try simp only [Act.put, List.setIfInBounds_toArray, List.set_cons_zero, List.set_cons_succ]
  refine wpAnyH_take (i := 2) (v := ?_) (by simp only [List.getElem?_toArray, List.getElem?_cons_succ, List.getElem?_cons_zero]; rfl) (by kernel_rfl) (by kernel_rfl) (by kernel_rfl) (by exact fun _ _ _ h => h) (Or.inl ⟨by rfl, ?_⟩) hHeld ?_
  rotate_left
  · intro w hSw; (try dsimp only at hSw); go_simp; (try with_reducible rfl)
  try simp only [Act.put, List.setIfInBounds_toArray, List.set_cons_zero, List.set_cons_succ]
  refine wpAnyH_take (i := 3) (v := ?_) (by simp only [List.getElem?_toArray, List.getElem?_cons_succ, List.getElem?_cons_zero]; rfl) (by kernel_rfl) (by kernel_rfl) (by kernel_rfl) (by exact fun _ _ _ h => h) (Or.inl ⟨by rfl, ?_⟩) hHeld ?_
  rotate_left
  · intro w hSw; (try dsimp only at hSw); go_simp; (try with_reducible rfl)
  try simp only [Act.put, List.setIfInBounds_toArray, List.set_cons_zero, List.set_cons_succ]
  refine wpAnyH_take (i := 4) (v := ?_) (by simp only [List.getElem?_toArray, List.getElem?_cons_succ, List.getElem?_cons_zero]; rfl) (by kernel_rfl) (by kernel_rfl) (by kernel_rfl) (by exact fun _ _ _ h => h) (Or.inl ⟨by rfl, ?_⟩) hHeld ?_
  rotate_left
  · intro w hSw; (try dsimp only at hSw); go_simp; (try with_reducible rfl)
  try simp only [Act.put, List.setIfInBounds_toArray, List.set_cons_zero, List.set_cons_succ]
  refine wpAnyH_take (i := 5) (v := ?_) (by simp only [List.getElem?_toArray, List.getElem?_cons_succ, List.getElem?_cons_zero]; rfl) (by kernel_rfl) (by kernel_rfl) (by kernel_rfl) (by exact fun _ _ _ h => h) (Or.inl ⟨by rfl, ?_⟩) hHeld ?_
  rotate_left
  · intro w hSw; (try dsimp only at hSw); go_simp; (try with_reducible rfl)
  try simp only [Act.put, List.setIfInBounds_toArray, List.set_cons_zero, List.set_cons_succ]
  refine wpAnyH_ready (rs := [1]) (by kernel_rfl) (by simp) ?_
  refine AllReadyH.cons (by simp only [List.getElem?_toArray, List.getElem?_cons_succ, List.getElem?_cons_zero]; rfl) (fun kC hkC => ?_) AllReadyH.nil
  go_simp
  refine (xValue_any hxd).mono ?_; rw [← HSM.out.val]; rintro e w2 ⟨rfl, hw⟩; subst hw
  (try go_wp2_with fail)
  refine hkC.out _ _ (⟨hyd.tx.c 28 rfl, hyd.tx.c 31 rfl, hyd.tx.c 29 rfl, hyd.tx.c 30 rfl, hyd.tx.c 16 rfl⟩) (fun hHeld => ?_)
  clear hkC kC
  try simp only [Act.put, List.setIfInBounds_toArray, List.set_cons_zero, List.set_cons_succ]
  refine wpAnyH_take (i := 6) (v := ?_) (by simp only [List.getElem?_toArray, List.getElem?_cons_succ, List.getElem?_cons_zero]; rfl) (by kernel_rfl) (by kernel_rfl) (by kernel_rfl) (by exact fun _ _ _ h => h) (Or.inl ⟨by rfl, ?_⟩) hHeld ?_
  rotate_left
  · intro w hSw; (try dsimp only at hSw); go_simp; (try with_reducible rfl)
  try simp only [Act.put, List.setIfInBounds_toArray, List.set_cons_zero, List.set_cons_succ]
  refine wpAnyH_take (i := 7) (v := ?_) (by simp only [List.getElem?_toArray, List.getElem?_cons_succ, List.getElem?_cons_zero]; rfl) (by kernel_rfl) (by kernel_rfl) (by kernel_rfl) (by exact fun _ _ _ h => h) (Or.inl ⟨by rfl, ?_⟩) hHeld ?_
  rotate_left
  · intro w hSw; (try dsimp only at hSw); go_simp; (try with_reducible rfl)
  try simp only [Act.put, List.setIfInBounds_toArray, List.set_cons_zero, List.set_cons_succ]
  refine wpAnyH_take (i := 8) (v := ?_) (by simp only [List.getElem?_toArray, List.getElem?_cons_succ, List.getElem?_cons_zero]; rfl) (by kernel_rfl) (by kernel_rfl) (by kernel_rfl) (by exact fun _ _ _ h => h) (Or.inl ⟨by rfl, ?_⟩) hHeld ?_
  rotate_left
  · intro w hSw; (try dsimp only at hSw); go_simp; (try with_reducible rfl)
  try simp only [Act.put, List.setIfInBounds_toArray, List.set_cons_zero, List.set_cons_succ]
  refine wpAnyH_take (i := 10) (v := ?_) (by simp only [List.getElem?_toArray, List.getElem?_cons_succ, List.getElem?_cons_zero]; rfl) (by kernel_rfl) (by kernel_rfl) (by kernel_rfl) (by exact fun _ _ _ h => h) (Or.inl ⟨by rfl, ?_⟩) hHeld ?_
  rotate_left
  · intro w hSw; (try dsimp only at hSw); go_simp; (try with_reducible rfl)
  try simp only [Act.put, List.setIfInBounds_toArray, List.set_cons_zero, List.set_cons_succ]
  refine wpAnyH_take (i := 11) (v := ?_) (by simp only [List.getElem?_toArray, List.getElem?_cons_succ, List.getElem?_cons_zero]; rfl) (by kernel_rfl) (by kernel_rfl) (by kernel_rfl) (by exact fun _ _ _ h => h) (Or.inl ⟨by rfl, ?_⟩) hHeld ?_
  rotate_left
  · intro w hSw; (try dsimp only at hSw); go_simp; (try with_reducible rfl)
  try simp only [Act.put, List.setIfInBounds_toArray, List.set_cons_zero, List.set_cons_succ]
  refine wpAnyH_take (i := 12) (v := ?_) (by simp only [List.getElem?_toArray, List.getElem?_cons_succ, List.getElem?_cons_zero]; rfl) (by kernel_rfl) (by kernel_rfl) (by kernel_rfl) (by exact fun _ _ _ h => h) (Or.inl ⟨by rfl, ?_⟩) hHeld ?_
  rotate_left
  · intro w hSw; (try dsimp only at hSw); go_simp; (try with_reducible rfl)
  try simp only [Act.put, List.setIfInBounds_toArray, List.set_cons_zero, List.set_cons_succ]
  refine wpAnyH_take (i := 13) (v := ?_) (by simp only [List.getElem?_toArray, List.getElem?_cons_succ, List.getElem?_cons_zero]; rfl) (by kernel_rfl) (by kernel_rfl) (by kernel_rfl) (by exact fun _ _ _ h => h) (Or.inl ⟨by rfl, ?_⟩) hHeld ?_
  rotate_left
  · intro w hSw; (try dsimp only at hSw); go_simp; (try with_reducible rfl)
  try simp only [Act.put, List.setIfInBounds_toArray, List.set_cons_zero, List.set_cons_succ]
  refine wpAnyH_ready (rs := [9]) (by kernel_rfl) (by simp) ?_
  refine AllReadyH.cons (by simp only [List.getElem?_toArray, List.getElem?_cons_succ, List.getElem?_cons_zero]; rfl) (fun kC hkC => ?_) AllReadyH.nil
  go_simp
  refine (xCause_any hxd).mono ?_; rw [← HSM.out.cause]; rintro e w2 ⟨rfl, hw⟩; subst hw
  (try go_wp2_with fail)
  refine hkC.out _ _ (⟨hyd.tx.c 28 rfl, hyd.tx.c 31 rfl, hyd.tx.c 29 rfl, hyd.tx.c 30 rfl, hyd.tx.c 16 rfl⟩) (fun hHeld => ?_)
  clear hkC kC
  try simp only [Act.put, List.setIfInBounds_toArray, List.set_cons_zero, List.set_cons_succ]
  refine wpAnyH_take (i := 14) (v := ?_) (by simp only [List.getElem?_toArray, List.getElem?_cons_succ, List.getElem?_cons_zero]; rfl) (by kernel_rfl) (by kernel_rfl) (by kernel_rfl) (by exact fun _ _ _ h => h) (Or.inl ⟨by rfl, ?_⟩) hHeld ?_
  rotate_left
  · intro w hSw; (try dsimp only at hSw); go_simp; (try with_reducible rfl)
  try simp only [Act.put, List.setIfInBounds_toArray, List.set_cons_zero, List.set_cons_succ]
  refine wpAnyH_take (i := 15) (v := ?_) (by simp only [List.getElem?_toArray, List.getElem?_cons_succ, List.getElem?_cons_zero]; rfl) (by kernel_rfl) (by kernel_rfl) (by kernel_rfl) (by exact fun _ _ _ h => h) (Or.inl ⟨by rfl, ?_⟩) hHeld ?_
  rotate_left
  · intro w hSw; (try dsimp only at hSw); go_simp; (try with_reducible rfl)
  try simp only [Act.put, List.setIfInBounds_toArray, List.set_cons_zero, List.set_cons_succ]
  refine wpAnyH_take (i := 16) (v := ?_) (by simp only [List.getElem?_toArray, List.getElem?_cons_succ, List.getElem?_cons_zero]; rfl) (by kernel_rfl) (by kernel_rfl) (by kernel_rfl) (by exact fun _ _ _ h => h) (Or.inl ⟨by rfl, ?_⟩) hHeld ?_
  rotate_left
  · intro w hSw; (try dsimp only at hSw); go_simp; (try with_reducible rfl)
  try simp only [Act.put, List.setIfInBounds_toArray, List.set_cons_zero, List.set_cons_succ]
  refine wpAnyH_take (i := 17) (v := ?_) (by simp only [List.getElem?_toArray, List.getElem?_cons_succ, List.getElem?_cons_zero]; rfl) (by kernel_rfl) (by kernel_rfl) (by kernel_rfl) (by exact fun _ _ _ h => h) (Or.inl ⟨by rfl, ?_⟩) hHeld ?_
  rotate_left
  · intro w hSw; (try dsimp only at hSw); go_simp; (try with_reducible rfl)
  try simp only [Act.put, List.setIfInBounds_toArray, List.set_cons_zero, List.set_cons_succ]
  refine wpAnyH_take (i := 19) (v := ?_) (by simp only [List.getElem?_toArray, List.getElem?_cons_succ, List.getElem?_cons_zero]; rfl) (by kernel_rfl) (by kernel_rfl) (by kernel_rfl) (by exact fun _ _ _ h => h) (Or.inl ⟨by rfl, ?_⟩) hHeld ?_
  rotate_left
  · intro w hSw; (try dsimp only at hSw); go_simp; (try with_reducible rfl)
  try simp only [Act.put, List.setIfInBounds_toArray, List.set_cons_zero, List.set_cons_succ]
  refine wpAnyH_take (i := 20) (v := ?_) (by simp only [List.getElem?_toArray, List.getElem?_cons_succ, List.getElem?_cons_zero]; rfl) (by kernel_rfl) (by kernel_rfl) (by kernel_rfl) (by exact fun _ _ _ h => h) (Or.inl ⟨by rfl, ?_⟩) hHeld ?_
  rotate_left
  · intro w hSw; (try dsimp only at hSw); go_simp; (try with_reducible rfl)
  try simp only [Act.put, List.setIfInBounds_toArray, List.set_cons_zero, List.set_cons_succ]
  refine wpAnyH_take (i := 21) (v := ?_) (by simp only [List.getElem?_toArray, List.getElem?_cons_succ, List.getElem?_cons_zero]; rfl) (by kernel_rfl) (by kernel_rfl) (by kernel_rfl) (by exact fun _ _ _ h => h) (Or.inl ⟨by rfl, ?_⟩) hHeld ?_
  rotate_left
  · intro w hSw; (try dsimp only at hSw); go_simp; (try with_reducible rfl)
  try simp only [Act.put, List.setIfInBounds_toArray, List.set_cons_zero, List.set_cons_succ]
  refine wpAnyH_take (i := 22) (v := ?_) (by simp only [List.getElem?_toArray, List.getElem?_cons_succ, List.getElem?_cons_zero]; rfl) (by kernel_rfl) (by kernel_rfl) (by kernel_rfl) (by exact fun _ _ _ h => h) (Or.inl ⟨by rfl, ?_⟩) hHeld ?_
  rotate_left
  · intro w hSw; (try dsimp only at hSw); go_simp; (try with_reducible rfl)
  try simp only [Act.put, List.setIfInBounds_toArray, List.set_cons_zero, List.set_cons_succ]
  refine wpAnyH_ready (rs := [18]) (by kernel_rfl) (by simp) ?_
  refine AllReadyH.cons (by simp only [List.getElem?_toArray, List.getElem?_cons_succ, List.getElem?_cons_zero]; rfl) (fun kC hkC => ?_) AllReadyH.nil
  go_simp
  refine (xStamp_any hxd).mono ?_; rw [← HSM.out.stamp]; rintro e w2 ⟨rfl, hw⟩; subst hw
  (try go_wp2_with fail)
  refine hkC.out _ _ (⟨hyd.tx.c 28 rfl, hyd.tx.c 31 rfl, hyd.tx.c 29 rfl, hyd.tx.c 30 rfl, hyd.tx.c 16 rfl⟩) (fun hHeld => ?_)
  clear hkC kC
  try simp only [Act.put, List.setIfInBounds_toArray, List.set_cons_zero, List.set_cons_succ]
  refine wpAnyH_take (i := 23) (v := ?_) (by simp only [List.getElem?_toArray, List.getElem?_cons_succ, List.getElem?_cons_zero]; rfl) (by kernel_rfl) (by kernel_rfl) (by kernel_rfl) (by exact fun _ _ _ h => h) (Or.inl ⟨by rfl, ?_⟩) hHeld ?_
  rotate_left
  · intro w hSw; (try dsimp only at hSw); go_simp; (try with_reducible rfl)
  try simp only [Act.put, List.setIfInBounds_toArray, List.set_cons_zero, List.set_cons_succ]
  refine wpAnyH_take (i := 24) (v := ?_) (by simp only [List.getElem?_toArray, List.getElem?_cons_succ, List.getElem?_cons_zero]; rfl) (by kernel_rfl) (by kernel_rfl) (by kernel_rfl) (by exact fun _ _ _ h => h) (Or.inl ⟨by rfl, ?_⟩) hHeld ?_
  rotate_left
  · intro w hSw; (try dsimp only at hSw); go_simp; (try with_reducible rfl)
  try simp only [Act.put, List.setIfInBounds_toArray, List.set_cons_zero, List.set_cons_succ]
  refine wpAnyH_take (i := 25) (v := ?_) (by simp only [List.getElem?_toArray, List.getElem?_cons_succ, List.getElem?_cons_zero]; rfl) (by kernel_rfl) (by kernel_rfl) (by kernel_rfl) (by exact fun _ _ _ h => h) (Or.inl ⟨by rfl, ?_⟩) hHeld ?_
  rotate_left
  · intro w hSw; (try dsimp only at hSw); go_simp; (try with_reducible rfl)
  try simp only [Act.put, List.setIfInBounds_toArray, List.set_cons_zero, List.set_cons_succ]
  refine wpAnyH_take (i := 26) (v := ?_) (by simp only [List.getElem?_toArray, List.getElem?_cons_succ, List.getElem?_cons_zero]; rfl) (by kernel_rfl) (by kernel_rfl) (by kernel_rfl) (by exact fun _ _ _ h => h) (Or.inl ⟨by rfl, ?_⟩) hHeld ?_
  rotate_left
  · intro w hSw; (try dsimp only at hSw); go_simp; (try with_reducible rfl)
  try simp only [Act.put, List.setIfInBounds_toArray, List.set_cons_zero, List.set_cons_succ]
  refine wpAnyH_take (i := 28) (v := ?_) (by simp only [List.getElem?_toArray, List.getElem?_cons_succ, List.getElem?_cons_zero]; rfl) (by kernel_rfl) (by kernel_rfl) (by kernel_rfl) (by exact fun _ _ _ h => h) (Or.inl ⟨by rfl, ?_⟩) hHeld ?_
  rotate_left
  · intro w hSw; (try dsimp only at hSw); go_simp; (try with_reducible rfl)
  try simp only [Act.put, List.setIfInBounds_toArray, List.set_cons_zero, List.set_cons_succ]
  refine wpAnyH_take (i := 29) (v := ?_) (by simp only [List.getElem?_toArray, List.getElem?_cons_succ, List.getElem?_cons_zero]; rfl) (by kernel_rfl) (by kernel_rfl) (by kernel_rfl) (by exact fun _ _ _ h => h) (Or.inl ⟨by rfl, ?_⟩) hHeld ?_
  rotate_left
  · intro w hSw; (try dsimp only at hSw); go_simp; (try with_reducible rfl)
  try simp only [Act.put, List.setIfInBounds_toArray, List.set_cons_zero, List.set_cons_succ]
  refine wpAnyH_take (i := 30) (v := ?_) (by simp only [List.getElem?_toArray, List.getElem?_cons_succ, List.getElem?_cons_zero]; rfl) (by kernel_rfl) (by kernel_rfl) (by kernel_rfl) (by exact fun _ _ _ h => h) (Or.inl ⟨by rfl, ?_⟩) hHeld ?_
  rotate_left
  · intro w hSw; (try dsimp only at hSw); go_simp; (try with_reducible rfl)
  try simp only [Act.put, List.setIfInBounds_toArray, List.set_cons_zero, List.set_cons_succ]
  refine wpAnyH_take (i := 31) (v := ?_) (by simp only [List.getElem?_toArray, List.getElem?_cons_succ, List.getElem?_cons_zero]; rfl) (by kernel_rfl) (by kernel_rfl) (by kernel_rfl) (by exact fun _ _ _ h => h) (Or.inl ⟨by rfl, ?_⟩) hHeld ?_
  rotate_left
  · intro w hSw; (try dsimp only at hSw); go_simp; (try with_reducible rfl)
  try simp only [Act.put, List.setIfInBounds_toArray, List.set_cons_zero, List.set_cons_succ]
  refine wpAnyH_ready (rs := [27]) (by kernel_rfl) (by simp) ?_
  refine AllReadyH.cons (by simp only [List.getElem?_toArray, List.getElem?_cons_succ, List.getElem?_cons_zero]; rfl) (fun kC hkC => ?_) AllReadyH.nil
  go_simp
  refine (xMade_any hxd).mono ?_; rw [← HSM.out.made]; rintro e w2 ⟨rfl, hw⟩; subst hw
  (try go_wp2_with fail)
  refine hkC.out _ _ (⟨hyd.tx.c 28 rfl, hyd.tx.c 31 rfl, hyd.tx.c 29 rfl, hyd.tx.c 30 rfl, hyd.tx.c 16 rfl⟩) (fun hHeld => ?_)
  clear hkC kC
  try simp only [Act.put, List.setIfInBounds_toArray, List.set_cons_zero, List.set_cons_succ]
  refine wpAnyH_take (i := 32) (v := ?_) (by simp only [List.getElem?_toArray, List.getElem?_cons_succ, List.getElem?_cons_zero]; rfl) (by kernel_rfl) (by kernel_rfl) (by kernel_rfl) (by exact fun _ _ _ h => h) (Or.inl ⟨by rfl, ?_⟩) hHeld ?_
  rotate_left
  · intro w hSw; (try dsimp only at hSw); go_simp; (try with_reducible rfl)
  try simp only [Act.put, List.setIfInBounds_toArray, List.set_cons_zero, List.set_cons_succ]
  refine wpAnyH_take (i := 33) (v := ?_) (by simp only [List.getElem?_toArray, List.getElem?_cons_succ, List.getElem?_cons_zero]; rfl) (by kernel_rfl) (by kernel_rfl) (by kernel_rfl) (by exact fun _ _ _ h => h) (Or.inl ⟨by rfl, ?_⟩) hHeld ?_
  rotate_left
  · intro w hSw; (try dsimp only at hSw); go_simp; (try with_reducible rfl)
  try simp only [Act.put, List.setIfInBounds_toArray, List.set_cons_zero, List.set_cons_succ]
  refine wpAnyH_take (i := 34) (v := ?_) (by simp only [List.getElem?_toArray, List.getElem?_cons_succ, List.getElem?_cons_zero]; rfl) (by kernel_rfl) (by kernel_rfl) (by kernel_rfl) (by exact fun _ _ _ h => h) (Or.inl ⟨by rfl, ?_⟩) hHeld ?_
  rotate_left
  · intro w hSw; (try dsimp only at hSw); go_simp; (try with_reducible rfl)
  try simp only [Act.put, List.setIfInBounds_toArray, List.set_cons_zero, List.set_cons_succ]
  refine wpAnyH_take (i := 35) (v := ?_) (by simp only [List.getElem?_toArray, List.getElem?_cons_succ, List.getElem?_cons_zero]; rfl) (by kernel_rfl) (by kernel_rfl) (by kernel_rfl) (by exact fun _ _ _ h => h) (Or.inl ⟨by rfl, ?_⟩) hHeld ?_
  rotate_left
  · intro w hSw; (try dsimp only at hSw); go_simp; (try with_reducible rfl)
  try simp only [Act.put, List.setIfInBounds_toArray, List.set_cons_zero, List.set_cons_succ]
  refine wpAnyH_take (i := 37) (v := ?_) (by simp only [List.getElem?_toArray, List.getElem?_cons_succ, List.getElem?_cons_zero]; rfl) (by kernel_rfl) (by kernel_rfl) (by kernel_rfl) (by exact fun _ _ _ h => h) (Or.inl ⟨by rfl, ?_⟩) hHeld ?_
  rotate_left
  · intro w hSw; (try dsimp only at hSw); go_simp; (try with_reducible rfl)
  try simp only [Act.put, List.setIfInBounds_toArray, List.set_cons_zero, List.set_cons_succ]
  refine wpAnyH_take (i := 38) (v := ?_) (by simp only [List.getElem?_toArray, List.getElem?_cons_succ, List.getElem?_cons_zero]; rfl) (by kernel_rfl) (by kernel_rfl) (by kernel_rfl) (by exact fun _ _ _ h => h) (Or.inl ⟨by rfl, ?_⟩) hHeld ?_
  rotate_left
  · intro w hSw; (try dsimp only at hSw); go_simp; (try with_reducible rfl)
  try simp only [Act.put, List.setIfInBounds_toArray, List.set_cons_zero, List.set_cons_succ]
  refine wpAnyH_take (i := 39) (v := ?_) (by simp only [List.getElem?_toArray, List.getElem?_cons_succ, List.getElem?_cons_zero]; rfl) (by kernel_rfl) (by kernel_rfl) (by kernel_rfl) (by exact fun _ _ _ h => h) (Or.inl ⟨by rfl, ?_⟩) hHeld ?_
  rotate_left
  · intro w hSw; (try dsimp only at hSw); go_simp; (try with_reducible rfl)
  try simp only [Act.put, List.setIfInBounds_toArray, List.set_cons_zero, List.set_cons_succ]
  refine wpAnyH_take (i := 40) (v := ?_) (by simp only [List.getElem?_toArray, List.getElem?_cons_succ, List.getElem?_cons_zero]; rfl) (by kernel_rfl) (by kernel_rfl) (by kernel_rfl) (by exact fun _ _ _ h => h) (Or.inl ⟨by rfl, ?_⟩) hHeld ?_
  rotate_left
  · intro w hSw; (try dsimp only at hSw); go_simp; (try with_reducible rfl)
  try simp only [Act.put, List.setIfInBounds_toArray, List.set_cons_zero, List.set_cons_succ]
  refine wpAnyH_ready (rs := [36]) (by kernel_rfl) (by simp) ?_
  refine AllReadyH.cons (by simp only [List.getElem?_toArray, List.getElem?_cons_succ, List.getElem?_cons_zero]; rfl) (fun kC hkC => ?_) AllReadyH.nil
  go_simp
  refine (xDecided_any hxd).mono ?_; rw [← HSM.out.sure]; rintro e w2 ⟨rfl, hw⟩; subst hw
  (try go_wp2_with fail)
  refine hkC.out _ _ (⟨hyd.tx.c 28 rfl, hyd.tx.c 31 rfl, hyd.tx.c 29 rfl, hyd.tx.c 30 rfl, hyd.tx.c 16 rfl⟩) (fun hHeld => ?_)
  clear hkC kC
  try simp only [Act.put, List.setIfInBounds_toArray, List.set_cons_zero, List.set_cons_succ]
  refine wpAnyH_take (i := 41) (v := ?_) (by simp only [List.getElem?_toArray, List.getElem?_cons_succ, List.getElem?_cons_zero]; rfl) (by kernel_rfl) (by kernel_rfl) (by kernel_rfl) (by exact fun _ _ _ h => h) (Or.inl ⟨by rfl, ?_⟩) hHeld ?_
  rotate_left
  · intro w hSw; (try dsimp only at hSw); go_simp; (try with_reducible rfl)
  try simp only [Act.put, List.setIfInBounds_toArray, List.set_cons_zero, List.set_cons_succ]
  refine wpAnyH_take (i := 42) (v := ?_) (by simp only [List.getElem?_toArray, List.getElem?_cons_succ, List.getElem?_cons_zero]; rfl) (by kernel_rfl) (by kernel_rfl) (by kernel_rfl) (by exact fun _ _ _ h => h) (Or.inl ⟨by rfl, ?_⟩) hHeld ?_
  rotate_left
  · intro w hSw; (try dsimp only at hSw); go_simp; (try with_reducible rfl)
  try simp only [Act.put, List.setIfInBounds_toArray, List.set_cons_zero, List.set_cons_succ]
  refine wpAnyH_done (by kernel_rfl) ?_ _
  clear hHeld
  go_upto_region 4 with (go_at_call 71; refine (xSets_any hxd).mono ?_; rw [← HSM.out.R, ← HSM.out.W]; rintro e w3 ⟨pr, cr, uu, rfl, hor, how, hnu, hk3⟩; obtain ⟨pu, cu, rfl⟩ := owns_slice how)
  have hy3 := hyd.no hk3
  have K3 : Keeps NoS w w3 := ((Keeps.refl NoS w).drew).trans hk3
  have HK3 := Lib.hid K3
  clear hnu hxd hyd hk3 K3 HSM
  have HOR := Lib.hid hor
  have HOW := Lib.hid (owns_words how)
  have HRW := Lib.hid (owns_words hy3.tx.rs)
  have HWW := Lib.hid (owns_words hy3.tx.ws)
  obtain ⟨rp, rc, hrv⟩ := hy3.tx.rsl
  obtain ⟨wp, wc, hwv⟩ := hy3.tx.wsl
  have HC := Lib.hid (show ∀ w', Keeps NoS w3 w' → w'.cell? ⟨Y, 10, none⟩ = some (.slice rp d.R.length rc) ∧ w'.cell? ⟨Y, 13, none⟩ = some (.slice wp d.W.length wc) from fun w' k => ⟨k.cell (hy3.tx.c 10 (by rw [← hrv]; rfl)) (fun f => f), k.cell (hy3.tx.c 13 (by rw [← hwv]; rfl)) (fun f => f)⟩)
  have HRV := Lib.hid hrv; have HWV := Lib.hid hwv
  clear hor how hrv hwv hy3
  obtain ⟨c10, c13⟩ := HC.out _ (Keeps.refl NoS w3)
  go_wp2_with fail
  clear c10 c13
  go_loopw [7] (fun iv wr => ∃ j : Nat, j ≤ d.R.length ∧ iv = .int .i64 j ∧ Keeps NoS w3 wr) (fun i _ => d.R.length - (intOf i).toNat)
  case atStart => exact ⟨0, by omega, rfl, Keeps.refl _ _⟩
  case round =>
    obtain ⟨j, hj, rfl, hkr⟩ := hrel
    have k0 : (0 : Int) ≤ (j : Int) := by omega
    by_cases hlt : j < d.R.length
    · have k1 : (j : Int) < (d.R.length : Int) := by omega
      have e1 : decide ((j : Int) < (d.R.length : Int)) = true := by simpa using hlt
      rcases HOR.out.2 with ⟨_, hz⟩ | ⟨gk, capk, curk, hvk, hbk, hgk, hnk, hmk, hsk, htk⟩
      · omega
      injection hvk with ek1 ek2 ek3
      subst ek1 ek3
      have kc : w3.cell? ⟨gk, j, none⟩ = some (.int .i64 (d.R.getD j (0, 0)).1) := by
        have := HOR.out.cells (g := gk) rfl j (.int .i64 (d.R.getD j (0, 0)).1) (keysOf_at d.R j hlt)
        rwa [add_zero_off] at this
      rcases HRW.out with ⟨_, hv⟩ | ⟨gr, capr, hvr, _, _, hcr⟩
      · rw [hv] at hlt; exact absurd hlt (by simp)
      rw [HRV.out] at hvr
      injection hvr with er1 er2 er3
      subst er1 er3
      have kr := (hcr j hlt).1
      have q1 := hkr.cell kc (fun f => f)
      have q2 := hkr.cell kr (fun f => f)
      obtain ⟨c10, _⟩ := HC.out _ hkr
      clear hcr hbk hgk hnk hmk hsk htk kc kr hlt
      generalize (d.R.getD j (0, 0)).1 = z at *
      go_upto_region 9 with fail
      go_quiet (fail)
      go_wp2_with fail
      go_roundw
      case rel => exact ⟨j + 1, by omega, by go_num, hkr.drewN _⟩
      case measure => simp [intOf]; omega
    · obtain rfl : j = d.R.length := by omega
      have e1 : decide ((d.R.length : Int) < (d.R.length : Int)) = false := by simp
      have HKR := Lib.hid hkr
      clear hkr hlt
      go_wp2_with fail
      go_loopw [8] (fun iv wr => ∃ j : Nat, j ≤ d.W.length ∧ iv = .int .i64 j ∧ Keeps NoS w3 wr) (fun i _ => d.W.length - (intOf i).toNat)
      case atStart => exact ⟨0, by omega, rfl, HKR.out⟩
      case round =>
        obtain ⟨j, hj, rfl, hkr⟩ := hrel
        have k0 : (0 : Int) ≤ (j : Int) := by omega
        by_cases hlt : j < d.W.length
        · have k1 : (j : Int) < (d.W.length : Int) := by omega
          have e1 : decide ((j : Int) < (d.W.length : Int)) = true := by simpa using hlt
          rcases HOW.out with ⟨_, hv⟩ | ⟨gk, capk, hvk, _, _, hck⟩
          · rw [hv] at hlt; exact absurd hlt (by simp)
          injection hvk with ek1 ek2 ek3
          subst ek1 ek3
          rcases HWW.out with ⟨_, hv⟩ | ⟨gr, capr, hvr, _, _, hcr⟩
          · rw [hv] at hlt; exact absurd hlt (by simp)
          rw [HWV.out] at hvr
          injection hvr with er1 er2 er3
          subst er1 er3
          have q1 := hkr.cell (hck j hlt).1 (fun f => f)
          have q2 := hkr.cell (hck j hlt).2 (fun f => f)
          have q3 := hkr.cell (hcr j hlt).1 (fun f => f)
          have q4 := hkr.cell (hcr j hlt).2 (fun f => f)
          obtain ⟨_, c13⟩ := HC.out _ hkr
          clear hcr hck hlt
          generalize (d.W.getD j (0, 0)).1 = z at *
          generalize (d.W.getD j (0, 0)).2 = z2 at *
          go_upto_region 14 with fail
          go_quiet (fail)
          go_wp2_with fail
          go_roundw
          case rel => exact ⟨j + 1, by omega, by go_num, hkr.drewN _⟩
          case measure => simp [intOf]; omega
        · obtain rfl : j = d.W.length := by omega
          have e1 : decide ((d.W.length : Int) < (d.W.length : Int)) = false := by simp
          go_wp2_with fail
          go_ret
          exact ⟨rfl, HK3.out.trans hkr⟩
end Go.Proofs.YtlcmnhfiggkmnaaGreat
namespace Go.Proofs.YtlcmnhfiggkmnaaGreat
open Go.RowKit
/-- an attempt and a memory that are the law's own -/
def LX (w wr : World) (a : Nat) (v : Value) (M : MemS) (X ra wa : Nat) (t : TxS) : Prop :=
  ∃ rv wv vv, NX wr a v M X ra wa rv wv vv t ∧ Keeps NoS w wr ∧ ∀ g, txO X ra wa rv wv vv g ∨ own2m a v g → w.heap.size ≤ g
section
variable {w w1 wr w2 : World} {a X ra wa : Nat} {v rv wv vv : Value} {M M' : MemS} {t t' : TxS}
theorem LX.after (hK : Keeps NoS w wr) (hG : ∀ g, txO X ra wa rv wv vv g ∨ own2m a v g → w.heap.size ≤ g) (h : NXP wr w2 a v M' X ra wa rv wv vv t') : LX w w2 a v M' X ra wa t' := by
  obtain ⟨rv', wv', vv', h1, h2, h3⟩ := h
  have hs := hK.size
  exact ⟨rv', wv', vv', h1, hK.trans' h2 (fun i hi e => absurd (hG i e) (by omega)), fun g e => e.elim (fun e => (h3 g e).elim (fun e => hG g (.inl e)) (fun e => by omega)) (fun e => hG g (.inr e))⟩
theorem NX.made (hm : MemAt w1 a v M) (hn : TxNew w1 w2 X ra wa t) : NX w2 a v M X ra wa (.slice none 0 0) (.slice none 0 0) (.slice none 0 0) t := by
  have hb : ∀ g, own2m a v g → g < w1.heap.size := fun g e => by
    rcases e with e | e
    · rw [e]; exact blk_lt hm.hd
    · exact hm.own_lt e
  refine ⟨hn.tx, hm.keep hn.kp (fun f => f) (fun _ _ f => f), fun g e e2 => ?_⟩
  have := hb g e
  have h1 := hn.hX; have h2 := hn.hr; have h3 := hn.hw
  rcases e2 with z | z | z | z | z | z
  · omega
  · omega
  · omega
  · simp [Value.ownBlock] at z
  · simp [Value.ownBlock] at z
  · simp [Value.ownBlock] at z
theorem LX.made (hm : MemAt w1 a v M) (hk : Keeps NoS w w1) (ha : w.heap.size ≤ a) (hv : ∀ g, v.ownBlock = some g → w.heap.size ≤ g) (hn : TxNew w1 w2 X ra wa t) : LX w w2 a v M X ra wa t := by
  refine ⟨_, _, _, NX.made hm hn, hk.trans hn.kp, fun g e => ?_⟩
  have h1 := hn.hX; have h2 := hn.hr; have h3 := hn.hw; have h4 := hk.size
  rcases e with (z | z | z | z | z | z) | (z | z)
  · omega
  · omega
  · omega
  · simp [Value.ownBlock] at z
  · simp [Value.ownBlock] at z
  · simp [Value.ownBlock] at z
  · omega
  · exact hv g z
end
theorem m16_size : sizeP ⟨3, 1, 3, 0, 4⟩ = ((34 : Nat) : Int) := by kernel_rfl
def lkA : Int := lockP ⟨3, 1, 3, 0, 4⟩ 0 4
def T1 : TxS := (beginT (tx0 1)).1
def S1 : MemS × (TxS × Int) := stepX (M0 34) T1
def T3 : TxS := watchT S1.2.1 lkA 0
def T4 : TxS := (readT T3 (dA 0)).1
def k16 : Nat → MemS × TxS
  | 0 => (S1.1, T4)
  | k + 1 => ((stepX (k16 k).1 (k16 k).2).1, (stepX (k16 k).1 (k16 k).2).2.1)
def c16 (k : Nat) : Int := (stepX (k16 k).1 (k16 k).2).2.2
theorem T1_ok : TI T1 := (TI.new 1).begin
theorem T3_ok : TI T3 := (T1_ok.stepX _).watch lkA 0 (by kernel_rfl) (.inr trivial) (.inl (by kernel_rfl))
theorem k16_ok : ∀ k, TI (k16 k).2
  | 0 => T3_ok.read _
  | k + 1 => (k16_ok k).stepX _
theorem k16_len : ∀ k, k < 3 → (k16 k).1.L.length = 34
  | 0, _ => by kernel_rfl
  | 1, _ => by kernel_rfl
  | 2, _ => by kernel_rfl
  | k + 3, h => absurd h (by omega)
theorem k16_a : (beginT (tx0 1)).2 = 0 ∧ S1.2.2 = 1 ∧ (readT T3 (dA 0)).2 = 0 := ⟨by kernel_rfl, by kernel_rfl, by kernel_rfl⟩
theorem k16_c : c16 0 = 0 ∧ c16 1 = 0 ∧ c16 2 = 1 := ⟨by kernel_rfl, by kernel_rfl, by kernel_rfl⟩
theorem k16_z : (k16 3).1.st = 4 ∧ (k16 3).2.value = 0 ∧ (commitAsk (k16 3).2).2 = 0 := ⟨by kernel_rfl, by kernel_rfl, by kernel_rfl⟩
theorem k16_v : S1.2.1.V.length < 1000000 := by have := (T1_ok.stepX (M0 34)).v; exact Nat.lt_trans this (by decide)
set_option maxHeartbeats 8000000 in
set_option maxRecDepth 100000 in
theorem told16_any (w : World) : Calls Tryz.prog 4 #[] w fun e w' => e = .returned (.bool true) ∧ Keeps NoS w w' := by
  obtain ⟨ka, ks, kr⟩ := k16_a
  obtain ⟨kz1, kz2, kz3⟩ := k16_z
  have KA := Lib.hid ka; have KS := Lib.hid ks; have KR := Lib.hid kr; have KZ1 := Lib.hid kz1; have KZ2 := Lib.hid kz2; have KZ3 := Lib.hid kz3
  clear ka ks kr kz1 kz2 kz3
  go_enter Tryz.func4, Tryz.ntmps4
  go_upto_region 2 with (go_at_call 5; refine (map16_any _).mono ?_; rintro e w1 ⟨rfl, hk1⟩)
  have hB := mapAt_new w1 3 1 3 0 4 26
  have hk1' := hk1.alloc (.cells #[.int .i64 3, .int .i64 1, .int .i64 3, .int .i64 0, .int .i64 4] 26)
  obtain ⟨B, hBe⟩ : ∃ B, w1.heap.size = B := ⟨_, rfl⟩
  have hBl : B < (w1.alloc (.cells #[.int .i64 3, .int .i64 1, .int .i64 3, .int .i64 0, .int .i64 4] 26)).heap.size := by rw [← hBe]; simp
  rw [hBe] at hB
  (try rw [hBe])
  generalize w1.alloc (.cells #[.int .i64 3, .int .i64 1, .int .i64 3, .int .i64 0, .int .i64 4] 26) = W at *
  clear hk1
  obtain ⟨m0, m1, m2, m3, m4⟩ := hB
  have HM := Lib.hid (show ∀ w', Keeps NoS W w' → (w'.cell? ⟨B, 0, none⟩ = some (.int .i64 3) ∧ w'.cell? ⟨B, 1, none⟩ = some (.int .i64 1) ∧ w'.cell? ⟨B, 2, none⟩ = some (.int .i64 3) ∧ w'.cell? ⟨B, 3, none⟩ = some (.int .i64 0) ∧ w'.cell? ⟨B, 4, none⟩ = some (.int .i64 4)) ∧ B < w'.heap.size from fun w' k => ⟨⟨k.cell m0 (fun f => f), k.cell m1 (fun f => f), k.cell m2 (fun f => f), k.cell m3 (fun f => f), k.cell m4 (fun f => f)⟩, Nat.lt_of_lt_of_le hBl k.size⟩)
  go_upto_region 3 with (go_at_call 6; refine (both_any 3 1 3 0 4 34 m16_size (by decide) (by decide) W).mono ?_; rintro e w2 ⟨a, c, v, u, rfl, hT⟩)
  clear m0 m1 m2 m3 m4 hBl
  go_upto_region 6 with (go_at_call 7; refine (xNew16_any 1 1 (.inr (.inl rfl)) _).mono ?_; rintro e w3 ⟨X, ra, wa, rfl, hn⟩)
  have hL : LX W w3 a v (M0 34) X ra wa (tx0 1) := LX.made hT.s.m hT.s.kp hT.s.na hT.s.nv hn
  clear hT hn
  obtain ⟨rv, wv, vv, hN, hK, hG⟩ := hL
  go_upto_region 7 with (go_at_call 9; refine (xBegin_any hN).mono ?_; rw [KA.out]; rintro e w4 ⟨rfl, hP⟩)
  have hL : LX W w4 a v (M0 34) X ra wa T1 := LX.after hK hG hP
  clear hP hK hG hN
  obtain ⟨rv, wv, vv, hN, hK, hG⟩ := hL
  go_upto_region 8 with (go_at_call 18; refine (xStep_any hN (M0_len 34) T1_ok.step).mono ?_; rw [show (stepX (M0 34) T1).2.2 = 1 from KS.out]; rintro e w5 ⟨rfl, hP⟩)
  have hL : LX W w5 a v S1.1 X ra wa S1.2.1 := LX.after hK hG hP
  clear hP hK hG hN
  obtain ⟨rv, wv, vv, hN, hK, hG⟩ := hL
  obtain ⟨⟨m0, m1, m2, m3, m4⟩, hl⟩ := HM.out _ hK
  go_upto_region 9 with (first
    | (go_at_call 24; refine (lock_lit 3 1 3 0 4 0 4 lkA rfl _).mono ?_; rintro e w6 ⟨rfl, hk6⟩; have hN6 := hN.no hk6)
    | (go_at_call 23; refine (xWatch_any hN6 lkA 0 k16_v).mono ?_; rintro e w7 ⟨rfl, hP⟩))
  have hL : LX W w7 a v S1.1 X ra wa T3 := LX.after (hK.trans hk6) hG hP
  clear hP hK hG hN hk6 hN6 m0 m1 m2 m3 m4 hl
  obtain ⟨rv, wv, vv, hN, hK, hG⟩ := hL
  obtain ⟨⟨m0, m1, m2, m3, m4⟩, hl⟩ := HM.out _ hK
  go_upto_region 10 with (first
    | (go_at_call 13; refine (dataAt_lit 3 1 3 0 4 0 (dA 0) rfl _).mono ?_; rintro e w8 ⟨rfl, hk8⟩; have hN8 := hN.no hk8)
    | (go_at_call 14; refine (xRead_any hN8 (dA 0)).mono ?_; rw [KR.out]; rintro e w9 ⟨rfl, hP⟩))
  have hL : LX W w9 a v (k16 0).1 X ra wa (k16 0).2 := LX.after (hK.trans hk8) hG hP
  clear hP hK hG hN hk8 hN8 m0 m1 m2 m3 m4 hl
  have HL0 := Lib.hid hL
  clear hL
  go_wp2_with fail
  go_loopw [8] (fun i wr => ∃ k : Nat, k ≤ 2 ∧ i = .int .i64 k ∧ LX W wr a v (k16 k).1 X ra wa (k16 k).2) (fun i _ => 3 - (intOf i).toNat)
  case atStart => exact ⟨0, by omega, rfl, HL0.out⟩
  case round =>
    obtain ⟨k, hk, rfl, hL⟩ := hrel
    obtain ⟨rv, wv, vv, hN, hK, hG⟩ := hL
    have e9 : decide ((k : Int) < 9) = true := decide_eq_true (by omega)
    obtain ⟨cc, hcc⟩ : ∃ z, c16 k = z := ⟨_, rfl⟩
    have HCC := Lib.hid hcc
    have k0 : (0 : Int) ≤ (k : Int) := by omega
    by_cases h2 : k < 2
    · have hz : cc = 0 := by
        rw [← hcc]
        rcases (show k = 0 ∨ k = 1 by omega) with rfl | rfl
        · exact k16_c.1
        · exact k16_c.2.1
      subst hz
      clear hcc
      go_wp2_with (go_at_call 18; refine (xStep_any hN (k16_len k (by omega)) (k16_ok k).step).mono ?_; rw [show (stepX (k16 k).1 (k16 k).2).2.2 = 0 from HCC.out]; rintro e w5 ⟨rfl, hP⟩; have hL5 : LX W w5 a v (k16 (k + 1)).1 X ra wa (k16 (k + 1)).2 := LX.after hK hG hP)
      go_roundw
      case rel => exact ⟨k + 1, by omega, by go_num, hL5⟩
      case measure => simp [intOf]; omega
    · obtain rfl : k = 2 := by omega
      have hz : cc = 1 := by rw [← hcc]; exact k16_c.2.2
      subst hz
      clear hcc
      go_wp2_with (first
        | (go_at_call 18; refine (xStep_any hN (k16_len 2 (by omega)) (k16_ok 2).step).mono ?_; rw [show (stepX (k16 2).1 (k16 2).2).2.2 = 1 from HCC.out]; rintro e w5 ⟨rfl, hP⟩; have hL5 : LX W w5 a v (k16 3).1 X ra wa (k16 3).2 := LX.after hK hG hP; obtain ⟨rv5, wv5, vv5, hN5, hK5, hG5⟩ := hL5)
        | (go_at_call 25; refine (steps_any a v _ _ hN5.mm).mono ?_; rw [KZ1.out]; rintro e w6 ⟨rfl, hw6⟩; subst hw6)
        | (go_at_call 26; refine (xValue_any hN5).mono ?_; rw [KZ2.out]; rintro e w7 ⟨rfl, hw7⟩; subst hw7)
        | (go_at_call 11; refine (xCommit_any hN5).mono ?_; rw [KZ3.out]; rintro e w8 ⟨rfl, hN8, hk8⟩))
      go_ret
      refine ⟨rfl, hk1'.trans (hK5.trans' hk8 (fun i hi e => ?_))⟩
      have := hG5 X (.inl (.inl rfl))
      have e' : i = X := e
      omega
end Go.Proofs.YtlcmnhfiggkmnaaGreat
namespace Go.Proofs.YtlcmnhfiggkmnaaGreat
open Go.RowKit
set_option maxHeartbeats 400000 in
set_option maxRecDepth 100000 in
theorem like16_any (wr : World) (a c : Nat) (v u : Value) (M : MemS) (hm : MemAt wr a v M) (hr : RefAt wr c u M) :
    Calls Tryz.prog 20 #[.pointer (some ⟨a, 0, none⟩), .pointer (some ⟨c, 0, none⟩)] wr fun e w' => e = .returned (.bool true) ∧ Keeps NoS wr w' := by
  have hc := hr.allCells
  have HM := Lib.hid hm; have HR := Lib.hid hr
  clear hm hr
  go_enter Tryz.func20, Tryz.ntmps20
  go_wp2_with fail
  go_region_held3 (fun w' => w'.cell? ⟨c, 1, none⟩ = some (.int .i64 M.st) ∧ w'.cell? ⟨c, 2, none⟩ = some (.int .i64 M.last.k) ∧ w'.cell? ⟨c, 3, none⟩ = some (.int .i64 M.last.at_) ∧ w'.cell? ⟨c, 4, none⟩ = some (.int .i64 M.last.val) ∧ w'.cell? ⟨c, 5, none⟩ = some (.int .i64 M.last.saw) ∧ w'.cell? ⟨c, 6, none⟩ = some (.bool M.last.done)) (first | exact hc | exact hc2) (first
    | (go_at_call 25; refine (steps_any a v M _ (HM.out.keep ((Keeps.refl NoS _).drew) (fun f => f) (fun _ _ f => f))).mono ?_; rintro e w2 ⟨rfl, rfl⟩)
    | (go_at_call 66; refine (last_any a v M _ (HM.out.keep ((Keeps.refl NoS _).drew) (fun f => f) (fun _ _ f => f))).mono ?_; rintro e w3 ⟨rfl, hk3⟩; have hr3 := (HR.out.keep ((Keeps.refl NoS _).drew) (fun f => f) (fun _ _ f => f)).keep hk3 (fun f => f) (fun _ _ f => f); have hc2 := hr3.allCells; have hkk := ((Keeps.refl NoS wr).drew).trans hk3))
  go_wp2_with fail
  go_ret
  exact ⟨rfl, hkk⟩
def kdZ (z : Int) : Int := IntKind.i64.wrap ((IntKind.u64.wrap z).tmod 2)
def atZ (z : Int) : Int := IntKind.i64.wrap ((IntKind.u64.wrap z).tmod 4)
theorem atZ_bd (z : Int) : 0 ≤ atZ z ∧ atZ z < 4 := by
  obtain ⟨h1, h2⟩ := u64_tmod_bd z 4 (by omega)
  unfold atZ
  rw [IntWalk.i64_in _ (by omega)]
  exact ⟨h1, h2⟩
theorem MemT.olt {T : TypeId} {w : World} {a : Nat} {v : Value} {M : MemS} (h : MemT T w a v M) {g : Nat} (e : own2m a v g) : g < w.heap.size := by
  rcases e with e | e
  · rw [e]; exact blk_lt h.hd
  · exact (h.ow.lt g e).2
theorem TxNew.own {w w' : World} {X ra wa : Nat} {t : TxS} (h : TxNew w w' X ra wa t) {g : Nat} (e : txO X ra wa (.slice none 0 0) (.slice none 0 0) (.slice none 0 0) g) : w.heap.size ≤ g ∧ g < w'.heap.size := by
  refine ⟨?_, h.tx.olt e⟩
  rcases e with e | e | e | e | e | e
  · rw [e]; exact h.hX
  · rw [e]; exact h.hr
  · rw [e]; exact h.hw
  · simp [Value.ownBlock] at e
  · simp [Value.ownBlock] at e
  · simp [Value.ownBlock] at e
theorem DxNew.own {w w' : World} {Y : Nat} {d : DxS} (h : DxNew w w' Y d) {g : Nat} (e : dxO Y (.slice none 0 0) (.slice none 0 0) g) : w.heap.size ≤ g ∧ g < w'.heap.size := by
  refine ⟨?_, h.tx.olt e⟩
  rcases e with e | e | e
  · rw [e]; exact h.hY
  · simp [Value.ownBlock] at e
  · simp [Value.ownBlock] at e
theorem undoT_len (M : MemS) (t : TxS) : (undoT M t).1.L.length = M.L.length := by
  unfold undoT
  split <;> exact storeI_len _ _ _
theorem stepX_len (M : MemS) (t : TxS) : (stepX M t).1.L.length = M.L.length := by
  unfold stepX
  split
  · rfl
  · split
    · exact undoT_len M t
    · split
      · unfold seeksT
        split
        · rw [loadI_L]
        · split
          · rw [loadI_L]
          · split
            · rw [loadI_L]
            · show (M.loadI _).L.length = _
              rw [loadI_L]
      · split
        · rw [loadI_L]
        · split
          · unfold lookT
            split
            · rw [loadI_L]
            · split
              · rw [loadI_L]
              · show (M.loadI _).L.length = _
                rw [loadI_L]
          · unfold commitT
            split
            · exact storeI_len _ _ _
            · split
              · exact swapI_len _ _ _ _
              · split
                · show (M.loadI _).L.length = _
                  rw [loadI_L]
                · split
                  · exact storeI_len _ _ _
                  · split
                    · exact storeI_len _ _ _
                    · exact storeI_len _ _ _
def two {α : Type} (x y : α) : Nat → α := fun k => if k = 0 then x else y
/-- all is made -/
theorem WL.made {w W w2 w3 w4 w5 w6 w7 : World} {a c X0 X2 r0 r2 s0 s2 Y0 Y2 XA YA EA EB PL B : Nat} {v u p0 p2 : Value} {M : MemS} {cl : Int}
    (hT : TwoR W w2 a c v u M M) (hB : w.heap.size ≤ B ∧ B < W.heap.size) (mb : MapAt W B 3 1 3 0 4) (k0 : Keeps NoS w W)
    (n0 : TxNew w2 w3 X0 r0 s0 (tx0 0)) (n2 : TxNew w3 w4 X2 r2 s2 (tx0 2)) (d0 : DxNew w4 w5 Y0 (dx0 0 cl)) (d2 : DxNew w5 w6 Y2 (dx0 2 cl)) (k7 : Keeps NoS w6 w7)
    (hEA : w6.heap.size ≤ EA ∧ EA < w7.heap.size) (hEB : EA < EB ∧ EB < w7.heap.size) (hXA : w6.heap.size ≤ XA ∧ XA < EA) (hYA : w6.heap.size ≤ YA ∧ YA < EA) (hPL : EB < PL ∧ PL < w7.heap.size)
    (ea : ∃ T, w7.heap[EA]? = some (.cells #[.int .i64 0, .int .i64 0] T (0, 0))) (eb : ∃ T, w7.heap[EB]? = some (.cells #[.int .i64 0, .int .i64 0] T (0, 0)))
    (xa : ∃ T, w7.heap[XA]? = some (.cells #[.pointer (some ⟨X0, 0, none⟩), .pointer (some ⟨X2, 0, none⟩)] T (0, 0))) (ya : ∃ T, w7.heap[YA]? = some (.cells #[.pointer (some ⟨Y0, 0, none⟩), .pointer (some ⟨Y2, 0, none⟩)] T (0, 0)))
    (pl : ∃ T, w7.heap[PL]? = some (.cells #[p0, p2] T (0, 0))) :
    WL w w7 ⟨two X0 X2, two r0 r2, two s0 s2, two Y0 Y2, a, v, c, u, EA, EB, XA, YA, PL, B⟩ ⟨fun _ => .slice none 0 0, fun _ => .slice none 0 0, fun _ => .slice none 0 0, fun _ => .slice none 0 0, fun _ => .slice none 0 0⟩ M M (two (tx0 0) (tx0 2)) (two (dx0 0 cl) (dx0 2 cl)) (fun _ => 0) (fun _ => 0) (two p0 p2) := by
  have q1 := k0.size; have q2 := hT.s.kp.size; have q3 := n0.kp.size; have q4 := n2.kp.size; have q5 := d0.kp.size; have q6 := d2.kp.size; have q7 := k7.size
  have K37 := ((n2.kp.trans d0.kp).trans d2.kp).trans k7
  have K57 := d2.kp.trans k7
  have key : ∀ i g, ownW ⟨two X0 X2, two r0 r2, two s0 s2, two Y0 Y2, a, v, c, u, EA, EB, XA, YA, PL, B⟩ ⟨fun _ => .slice none 0 0, fun _ => .slice none 0 0, fun _ => .slice none 0 0, fun _ => .slice none 0 0, fun _ => .slice none 0 0⟩ i g →
      (i = .tx 0 ∧ w2.heap.size ≤ g ∧ g < w3.heap.size) ∨ (i = .tx 1 ∧ w3.heap.size ≤ g ∧ g < w4.heap.size) ∨ (i = .dx 0 ∧ w4.heap.size ≤ g ∧ g < w5.heap.size) ∨ (i = .dx 1 ∧ w5.heap.size ≤ g ∧ g < w6.heap.size) ∨
      (i = .ma ∧ own2m a v g ∧ W.heap.size ≤ g ∧ g < w2.heap.size) ∨ (i = .mc ∧ own2m c u g ∧ W.heap.size ≤ g ∧ g < w2.heap.size) ∨ (i = .ea ∧ g = EA) ∨ (i = .eb ∧ g = EB) ∨ (i = .fx ∧ (g = XA ∨ g = YA ∨ g = PL ∨ g = B)) := by
    intro i g e
    cases i with
    | tx k =>
      obtain ⟨hk, e⟩ := e
      rcases (show k = 0 ∨ k = 1 by omega) with rfl | rfl
      · exact .inl ⟨rfl, n0.own e⟩
      · exact .inr (.inl ⟨rfl, n2.own e⟩)
    | dx k =>
      obtain ⟨hk, e⟩ := e
      rcases (show k = 0 ∨ k = 1 by omega) with rfl | rfl
      · exact .inr (.inr (.inl ⟨rfl, d0.own e⟩))
      · exact .inr (.inr (.inr (.inl ⟨rfl, d2.own e⟩)))
    | ma =>
      refine .inr (.inr (.inr (.inr (.inl ⟨rfl, e, ?_, hT.s.m.olt e⟩))))
      rcases e with e | e
      · rw [e]; exact hT.s.na
      · exact hT.s.nv g e
    | mc =>
      refine .inr (.inr (.inr (.inr (.inr (.inl ⟨rfl, e, ?_, hT.r.m.olt e⟩)))))
      rcases e with e | e
      · rw [e]; exact hT.r.na
      · exact hT.r.nv g e
    | ea => exact .inr (.inr (.inr (.inr (.inr (.inr (.inl ⟨rfl, e⟩))))))
    | eb => exact .inr (.inr (.inr (.inr (.inr (.inr (.inr (.inl ⟨rfl, e⟩)))))))
    | fx => exact .inr (.inr (.inr (.inr (.inr (.inr (.inr (.inr ⟨rfl, e⟩)))))))
  have hac : ∀ g, own2m a v g → ¬ own2m c u g := fun g e e2 => by
    rcases e with e | e <;> rcases e2 with e2 | e2
    · exact hT.ac (e.symm.trans e2)
    · exact hT.ua (by rw [← e]; exact e2)
    · exact hT.vc (by rw [← e2]; exact e)
    · exact hT.vu g e e2
  refine ⟨fun k hk => ?_, fun k hk => ?_, hT.s.m.keep (n0.kp.trans K37) (fun f => f) (fun _ _ f => f), hT.r.m.keep (n0.kp.trans K37) (fun f => f) (fun _ _ f => f), fun i j g hij ei ej => ?_, fun i g e => ?_, fun i g e => ?_, ea, eb, xa, ya, pl, mb.keep (hT.s.kp.trans (n0.kp.trans K37)) (fun f => f), k0.trans (hT.s.kp.trans (n0.kp.trans K37))⟩
  · rcases (show k = 0 ∨ k = 1 by omega) with rfl | rfl
    · exact n0.tx.no K37
    · exact n2.tx.no ((d0.kp.trans d2.kp).trans k7)
  · rcases (show k = 0 ∨ k = 1 by omega) with rfl | rfl
    · exact d0.tx.no K57
    · exact d2.tx.no k7
  · have a1 := key i g ei
    have b1 := key j g ej
    rcases a1 with ⟨a0, a1⟩ | ⟨a0, a1⟩ | ⟨a0, a1⟩ | ⟨a0, a1⟩ | ⟨a0, a2, a1⟩ | ⟨a0, a2, a1⟩ | ⟨a0, a1⟩ | ⟨a0, a1⟩ | ⟨a0, a1⟩ <;> rcases b1 with ⟨b0, b1⟩ | ⟨b0, b1⟩ | ⟨b0, b1⟩ | ⟨b0, b1⟩ | ⟨b0, b2, b1⟩ | ⟨b0, b2, b1⟩ | ⟨b0, b1⟩ | ⟨b0, b1⟩ | ⟨b0, b1⟩ <;> first | exact hij (a0.trans b0.symm) | exact hac g a2 b2 | exact hac g b2 a2 | omega
  · rcases key i g e with ⟨_, a1⟩ | ⟨_, a1⟩ | ⟨_, a1⟩ | ⟨_, a1⟩ | ⟨_, _, a1⟩ | ⟨_, _, a1⟩ | ⟨_, a1⟩ | ⟨_, a1⟩ | ⟨_, a1⟩ <;> omega
  · rcases key i g e with ⟨_, a1⟩ | ⟨_, a1⟩ | ⟨_, a1⟩ | ⟨_, a1⟩ | ⟨_, _, a1⟩ | ⟨_, _, a1⟩ | ⟨_, a1⟩ | ⟨_, a1⟩ | ⟨_, a1⟩ <;> omega
/-- in the midst of a pick of k -/
structure TwJ (n : Nat → Nat) (k : Nat) (M : MemS) (t : Nat → TxS) (d : Nat → DxS) (at_ bu : Nat → Int) : Prop where
  sim : ∀ j, j < 2 → Sim (t j) (d j)
  ti : ∀ j, j < 2 → TI (t j)
  di : ∀ j, j < 2 → 0 ≤ (d j).i
  len : M.L.length = 34
  a0 : ∀ j, j < 2 → 0 ≤ at_ j ∧ at_ j ≤ (n j : Int) + 2
  b0 : ∀ j, j < 2 → bu j = 0 ∨ bu j = 1
  ab : ∀ j, j < 2 → j ≠ k → bu j = 0 → at_ j ≤ (n j : Int) + 1
theorem TwI.new (n : Nat → Nat) (cl : Int) (M : MemS) (hM : M.L.length = 34) : TwI n M (two (tx0 0) (tx0 2)) (two (dx0 0 cl) (dx0 2 cl)) (fun _ => 0) (fun _ => 0) := by
  refine ⟨fun k hk => ?_, fun k hk => ?_, fun k hk => ?_, hM, fun k _ => ⟨Int.le_refl _, by omega⟩, fun _ _ => .inl rfl, fun k _ _ => by omega⟩
  all_goals rcases (show k = 0 ∨ k = 1 by omega) with rfl | rfl
  · exact sim_new 0 cl
  · exact sim_new 2 cl
  · exact TI.new 0
  · exact TI.new 2
  · exact Int.le_refl _
  · exact Int.le_refl _
section
variable {n : Nat → Nat} {k : Nat} {M M' : MemS} {t : Nat → TxS} {d : Nat → DxS} {at_ bu : Nat → Int} {t1 : TxS} {d1 : DxS}
/-- one of them goes on -/
theorem TwI.go (h : TwI n M t d at_ bu) (hs : Sim t1 d1) (ht : TI t1) (hd : 0 ≤ d1.i) (hM : M'.L.length = 34) {x y : Int} (hx : 0 ≤ x ∧ x ≤ (n k : Int) + 2) (hy : y = 0 ∨ y = 1) :
    TwJ n k M' (fput t k t1) (fput d k d1) (fput at_ k x) (fput bu k y) := by
  refine ⟨fun j hj => ?_, fun j hj => ?_, fun j hj => ?_, hM, fun j hj => ?_, fun j hj => ?_, fun j hj hne hb => ?_⟩
  · by_cases e : j = k
    · subst e; rw [fput_same, fput_same]; exact hs
    · rw [fput_other _ _ _ e, fput_other _ _ _ e]; exact h.sim j hj
  · by_cases e : j = k
    · subst e; rw [fput_same]; exact ht
    · rw [fput_other _ _ _ e]; exact h.ti j hj
  · by_cases e : j = k
    · subst e; rw [fput_same]; exact hd
    · rw [fput_other _ _ _ e]; exact h.di j hj
  · by_cases e : j = k
    · subst e; rw [fput_same]; exact hx
    · rw [fput_other _ _ _ e]; exact h.a0 j hj
  · by_cases e : j = k
    · subst e; rw [fput_same]; exact hy
    · rw [fput_other _ _ _ e]; exact h.b0 j hj
  · rw [fput_other _ _ _ hne] at hb ⊢
    exact h.ab j hj hb
theorem fput_self {α : Type} (f : Nat → α) (k : Nat) : fput f k (f k) = f := by
  funext j; unfold fput; split
  · rename_i e; rw [e]
  · rfl
theorem fput_fput {α : Type} (f : Nat → α) (k : Nat) (x y : α) : fput (fput f k x) k y = fput f k y := by
  funext j; unfold fput; split <;> rfl
/-- the pick is done -/
theorem TwJ.stay (h : TwJ n k M t d at_ bu) (hb : bu k = 0 → at_ k ≤ (n k : Int) + 1) : TwI n M t d at_ bu :=
  ⟨h.sim, h.ti, h.di, h.len, h.a0, h.b0, fun j hj hz => by
    by_cases e : j = k
    · subst e; exact hb hz
    · exact h.ab j hj e hz⟩
theorem TwJ.zero (h : TwJ n k M t d at_ bu) : TwI n M t d (fput at_ k 0) bu :=
  ⟨h.sim, h.ti, h.di, h.len, fun j hj => by
    by_cases e : j = k
    · subst e; rw [fput_same]; exact ⟨Int.le_refl _, by omega⟩
    · rw [fput_other _ _ _ e]; exact h.a0 j hj, h.b0, fun j hj hz => by
    by_cases e : j = k
    · subst e; rw [fput_same]; omega
    · rw [fput_other _ _ _ e]; exact h.ab j hj e hz⟩
end
end Go.Proofs.YtlcmnhfiggkmnaaGreat
