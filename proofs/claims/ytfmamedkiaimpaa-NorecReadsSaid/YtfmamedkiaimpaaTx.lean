/- An attempt of package norec: its block, its sets, what it watches. -/
import Derived.Test.YtfmamedkiaimpaaReadsPut
import Derived.Test.YtfmamedkiaimpaaWritesGet
import Derived.Test.YtfmamedkiaimpaaWritesList
import Derived.Test.YtfmamedkiaimpaaMemTot
namespace Go.Proofs.Ytfmamedkiaimpaa
open Go.RowKit
structure TxS where
  th : Int
  top : Int
  life : Int
  job : Int
  part : Int
  i : Int
  pl : Int
  val : Int
  now : Int
  value : Int
  cause : Int
  stamp : Int
  made : Int
  took : Bool
  phased : Bool
  R : List (Int × Int)
  W : List (Int × Int)
  V : List (Int × Int)
def txC (t : TxS) (ra wa : Nat) (vv : Value) : Array Value :=
  #[.int .i64 3, .int .i64 1, .int .i64 3, .int .i64 0, .int .i64 4, .int .i64 t.th, .int .i64 t.top, .pointer (some ⟨ra, 0, none⟩), .pointer (some ⟨wa, 0, none⟩), vv, .int .i64 t.life, .int .i64 t.job, .int .i64 t.part, .int .i64 t.i, .int .i64 t.pl, .int .i64 t.val, .int .i64 t.now, .int .i64 t.value, .int .i64 t.cause, .int .i64 t.stamp, .int .i64 t.made, .bool t.took, .bool t.phased]
/-- the blocks of an attempt -/
def txO (X ra wa : Nat) (rv wv vv : Value) : Nat → Prop := fun g => g = X ∨ g = ra ∨ g = wa ∨ rv.ownBlock = some g ∨ wv.ownBlock = some g ∨ vv.ownBlock = some g
structure TxAt (w : World) (X ra wa : Nat) (rv wv vv : Value) (t : TxS) : Prop where
  hd : w.heap[X]? = some (.cells (txC t ra wa vv) 81 (0, 0))
  rs : RSet w ra rv 32 t.R
  ws : ∃ asked, WrAt w wa wv 32 t.W asked
  vs : w.ownsRow 0 54 2 vv t.V.length (flat t.V)
  d1 : X ≠ ra
  d2 : X ≠ wa
  d3 : ra ≠ wa
  o1 : ∀ g, rv.ownBlock = some g → g ≠ X ∧ g ≠ wa ∧ wv.ownBlock ≠ some g ∧ vv.ownBlock ≠ some g
  o2 : ∀ g, wv.ownBlock = some g → g ≠ X ∧ g ≠ ra ∧ vv.ownBlock ≠ some g
  o3 : ∀ g, vv.ownBlock = some g → g ≠ X ∧ g ≠ ra ∧ g ≠ wa
section
variable {w w' : World} {X ra wa : Nat} {rv wv vv : Value} {t : TxS} {S : Nat → Prop}
theorem TxAt.keep (h : TxAt w X ra wa rv wv vv t) (k : Keeps S w w') (hS : ∀ g, txO X ra wa rv wv vv g → ¬ S g) : TxAt w' X ra wa rv wv vv t :=
  ⟨k.blk h.hd (hS X (.inl rfl)), h.rs.keep k (hS ra (.inr (.inl rfl))) (fun g e => hS g (.inr (.inr (.inr (.inl e))))), h.ws.imp fun _ z => z.keep k (hS wa (.inr (.inr (.inl rfl)))) (fun g e => hS g (.inr (.inr (.inr (.inr (.inl e)))))), k.owns h.vs (fun g e => hS g (.inr (.inr (.inr (.inr (.inr e)))))), h.d1, h.d2, h.d3, h.o1, h.o2, h.o3⟩
theorem TxAt.no (h : TxAt w X ra wa rv wv vv t) (k : Keeps NoS w w') : TxAt w' X ra wa rv wv vv t := h.keep k (fun _ _ f => f)
theorem TxAt.c (h : TxAt w X ra wa rv wv vv t) (k : Nat) {u : Value} (hu : (txC t ra wa vv)[k]? = some u) : w.cell? ⟨X, k, none⟩ = some u := by rw [blk_cell h.hd, hu]
theorem TxAt.f (h : TxAt w X ra wa rv wv vv t) (k : Nat) : w.frozen? ⟨X, k, none⟩ = false := blk_free h.hd k
theorem TxAt.lt (h : TxAt w X ra wa rv wv vv t) : X < w.heap.size := blk_lt h.hd
/-- a field is laid anew -/
theorem TxAt.set (h : TxAt w X ra wa rv wv vv t) (k : Nat) (u : Value) {t' : TxS} (hc : (txC t ra wa vv).setIfInBounds k u = txC t' ra wa vv) (hR : t'.R = t.R) (hW : t'.W = t.W) (hV : t'.V = t.V) : TxAt (w.setCell ⟨X, k, none⟩ u) X ra wa rv wv vv t' := by
  have kk : Keeps (just X) w (w.setCell ⟨X, k, none⟩ u) := (Keeps.refl (just X) w).setCell (p := ⟨X, k, none⟩) (fun _ => rfl) u
  refine ⟨by rw [← hc]; exact blk_set h.hd k u, ?_, ?_, ?_, h.d1, h.d2, h.d3, h.o1, h.o2, h.o3⟩
  · rw [hR]; exact h.rs.keep kk (fun e => h.d1 (by have e' : ra = X := e; exact e'.symm)) (fun g e e2 => (h.o1 g e).1 e2)
  · rw [hW]; exact h.ws.imp fun _ z => z.keep kk (fun e => h.d2 (by have e' : wa = X := e; exact e'.symm)) (fun g e e2 => (h.o2 g e).1 e2)
  · rw [hV]; exact kk.owns h.vs (fun g e e2 => (h.o3 g e).1 e2)
theorem keepsX (w : World) (X k : Nat) (u : Value) : Keeps (just X) w (w.setCell ⟨X, k, none⟩ u) := (Keeps.refl (just X) w).setCell (p := ⟨X, k, none⟩) (fun _ => rfl) u
end
/-- an attempt beside a memory -/
structure NX (w : World) (a : Nat) (v : Value) (M : MemS) (X ra wa : Nat) (rv wv vv : Value) (t : TxS) : Prop where
  tx : TxAt w X ra wa rv wv vv t
  mm : MemAt w a v M
  ap : ∀ g, own2m a v g → ¬ txO X ra wa rv wv vv g
/-- what a step leaves: the attempt, the memory; all else stands -/
def NXP (w w' : World) (a : Nat) (v : Value) (M : MemS) (X ra wa : Nat) (rv wv vv : Value) (t : TxS) : Prop :=
  ∃ rv' wv' vv', NX w' a v M X ra wa rv' wv' vv' t ∧ Keeps (fun g => txO X ra wa rv wv vv g ∨ own2m a v g) w w' ∧ ∀ g, txO X ra wa rv' wv' vv' g → txO X ra wa rv wv vv g ∨ w.heap.size ≤ g
section
variable {w w' w2 : World} {a X ra wa : Nat} {v rv wv vv : Value} {M M' : MemS} {t t' : TxS}
theorem NX.no (h : NX w a v M X ra wa rv wv vv t) (k : Keeps NoS w w') : NX w' a v M X ra wa rv wv vv t := ⟨h.tx.no k, h.mm.keep k (fun f => f) (fun _ _ f => f), h.ap⟩
theorem NX.self (h : NX w a v M X ra wa rv wv vv t) : NXP w w a v M X ra wa rv wv vv t := ⟨rv, wv, vv, h, Keeps.refl _ _, fun _ e => .inl e⟩
theorem NXP.no (h : NXP w w' a v M X ra wa rv wv vv t) (k : Keeps NoS w' w2) : NXP w w2 a v M X ra wa rv wv vv t := by
  obtain ⟨rv', wv', vv', h1, h2, h3⟩ := h
  exact ⟨rv', wv', vv', h1.no k, h2.trans k.no, h3⟩
theorem NXP.bind (h : NXP w w' a v M X ra wa rv wv vv t) (k : ∀ rv' wv' vv', NX w' a v M X ra wa rv' wv' vv' t → NXP w' w2 a v M' X ra wa rv' wv' vv' t') : NXP w w2 a v M' X ra wa rv wv vv t' := by
  obtain ⟨rv', wv', vv', h1, h2, h3⟩ := h
  obtain ⟨r2, w2', v2, g1, g2, g3⟩ := k rv' wv' vv' h1
  refine ⟨r2, w2', v2, g1, ?_, fun g e => ?_⟩
  · refine h2.trans' g2 (fun i hi e => ?_)
    rcases e with e | e
    · rcases h3 i e with e2 | e2
      · exact .inl e2
      · omega
    · exact .inr e
  · rcases g3 g e with e2 | e2
    · exact h3 g e2
    · have := h2.size; exact .inr (by omega)
/-- a field is laid anew -/
theorem NX.set (h : NX w a v M X ra wa rv wv vv t) (k : Nat) (u : Value) {t' : TxS} (hc : (txC t ra wa vv).setIfInBounds k u = txC t' ra wa vv) (hR : t'.R = t.R) (hW : t'.W = t.W) (hV : t'.V = t.V) : NX (w.setCell ⟨X, k, none⟩ u) a v M X ra wa rv wv vv t' :=
  ⟨h.tx.set k u hc hR hW hV, h.mm.keep (keepsX w X k u) (fun e => h.ap a (.inl rfl) (.inl (by have e' : a = X := e; exact e'))) (fun g hg e => h.ap g (.inr hg) (.inl (by have e' : g = X := e; exact e'))), h.ap⟩
theorem NX.kx (_h : NX w a v M X ra wa rv wv vv t) (k : Keeps (just X) w w') (hN : NX w' a v M' X ra wa rv wv vv t') : NXP w w' a v M' X ra wa rv wv vv t' :=
  ⟨rv, wv, vv, hN, k.mono (fun g e => .inl (.inl (by have e' : g = X := e; exact e'))), fun _ e => .inl e⟩
/-- the memory goes on -/
theorem NX.mem (h : NX w a v M X ra wa rv wv vv t) (hm : MemAt w' a v M') (k : Keeps (own2m a v) w w') : NX w' a v M' X ra wa rv wv vv t :=
  ⟨h.tx.keep k (fun g e e2 => h.ap g e2 e), hm, h.ap⟩
end
end Go.Proofs.Ytfmamedkiaimpaa
