/- An attempt's sets are turned: what stands. -/
import Derived.Test.YtfmamedkiaimpaaTxC
namespace Go.Proofs.Ytfmamedkiaimpaa
open Go.RowKit
section
variable {w w' : World} {a X ra wa : Nat} {v rv wv vv : Value} {M : MemS} {t : TxS}
theorem TxAt.ralt (h : TxAt w X ra wa rv wv vv t) : ra < w.heap.size := blk_lt h.rs.hd
theorem TxAt.walt (h : TxAt w X ra wa rv wv vv t) : wa < w.heap.size := by obtain ⟨_, z⟩ := h.ws; exact blk_lt z.hd
theorem TxAt.rvlt (h : TxAt w X ra wa rv wv vv t) {g : Nat} (e : rv.ownBlock = some g) : g < w.heap.size := (h.rs.ow.lt g e).2
theorem TxAt.wvlt (h : TxAt w X ra wa rv wv vv t) {g : Nat} (e : wv.ownBlock = some g) : g < w.heap.size := by obtain ⟨_, z⟩ := h.ws; exact (z.ow.lt g e).2
theorem TxAt.vvlt (h : TxAt w X ra wa rv wv vv t) {g : Nat} (e : vv.ownBlock = some g) : g < w.heap.size := (h.vs.lt g e).2
theorem NX.lt (h : NX w a v M X ra wa rv wv vv t) {g : Nat} (e : own2m a v g) : g < w.heap.size := by
  rcases e with e | e
  · rw [e]; exact blk_lt h.mm.hd
  · exact h.mm.own_lt e
/-- what was read is turned -/
theorem NX.rset (h : NX w a v M X ra wa rv wv vv t) {rv' : Value} {R' : List (Int × Int)} (hs : RSet w' ra rv' 32 R') (k : Keeps (own2 ra rv) w w') (hn : ∀ g, rv'.ownBlock = some g → rv.ownBlock = some g ∨ w.heap.size ≤ g) : NXP w w' a v M X ra wa rv wv vv { t with R := R' } := by
  have T := h.tx
  have nX : ¬ own2 ra rv X := fun e => e.elim T.d1 (fun e => (T.o1 X e).1 rfl)
  have nwa : ¬ own2 ra rv wa := fun e => e.elim (fun e => T.d3 e.symm) (fun e => (T.o1 wa e).2.1 rfl)
  have nwv : ∀ g, wv.ownBlock = some g → ¬ own2 ra rv g := fun g e e2 => e2.elim (fun e2 => (T.o2 g e).2.1 e2) (fun e2 => (T.o1 g e2).2.2.1 e)
  have nvv : ∀ g, vv.ownBlock = some g → ¬ own2 ra rv g := fun g e e2 => e2.elim (fun e2 => (T.o3 g e).2.1 e2) (fun e2 => (T.o1 g e2).2.2.2 e)
  have nm : ∀ g, own2m a v g → ¬ own2 ra rv g := fun g e e2 => h.ap g e (e2.elim (fun e2 => .inr (.inl e2)) (fun e2 => .inr (.inr (.inr (.inl e2)))))
  refine ⟨rv', wv, vv, ⟨⟨k.blk T.hd nX, hs, T.ws.imp fun _ z => z.keep k nwa nwv, k.owns T.vs nvv, T.d1, T.d2, T.d3, fun g e => ?_, T.o2, T.o3⟩, h.mm.keep k (nm a (.inl rfl)) (fun g hg => nm g (.inr hg)), fun g e e2 => ?_⟩, k.mono fun g e => .inl (e.elim (fun e => .inr (.inl e)) (fun e => .inr (.inr (.inr (.inl e))))), fun g e => ?_⟩
  · rcases hn g e with e2 | e2
    · exact T.o1 g e2
    · exact ⟨fun z => by have := T.lt; omega, fun z => by have := T.walt; omega, fun z => by have := T.wvlt z; omega, fun z => by have := T.vvlt z; omega⟩
  · have hl := h.lt e
    rcases e2 with z | z | z | z | z
    · exact h.ap g e (.inl z)
    · exact h.ap g e (.inr (.inl z))
    · exact h.ap g e (.inr (.inr (.inl z)))
    · rcases hn g z with z2 | z2
      · exact h.ap g e (.inr (.inr (.inr (.inl z2))))
      · omega
    · exact h.ap g e (.inr (.inr (.inr (.inr z))))
  · rcases e with z | z | z | z | z
    · exact .inl (.inl z)
    · exact .inl (.inr (.inl z))
    · exact .inl (.inr (.inr (.inl z)))
    · rcases hn g z with z2 | z2
      · exact .inl (.inr (.inr (.inr (.inl z2))))
      · exact .inr z2
    · exact .inl (.inr (.inr (.inr (.inr z))))
/-- what is to be written is turned -/
theorem NX.wset (h : NX w a v M X ra wa rv wv vv t) {wv' : Value} {W' : List (Int × Int)} {asked : Int} (hs : WrAt w' wa wv' 32 W' asked) (k : Keeps (own2 wa wv) w w') (hn : ∀ g, wv'.ownBlock = some g → wv.ownBlock = some g ∨ w.heap.size ≤ g) : NXP w w' a v M X ra wa rv wv vv { t with W := W' } := by
  have T := h.tx
  have nX : ¬ own2 wa wv X := fun e => e.elim T.d2 (fun e => (T.o2 X e).1 rfl)
  have nra : ¬ own2 wa wv ra := fun e => e.elim T.d3 (fun e => (T.o2 ra e).2.1 rfl)
  have nrv : ∀ g, rv.ownBlock = some g → ¬ own2 wa wv g := fun g e e2 => e2.elim (fun e2 => (T.o1 g e).2.1 e2) (fun e2 => (T.o1 g e).2.2.1 e2)
  have nvv : ∀ g, vv.ownBlock = some g → ¬ own2 wa wv g := fun g e e2 => e2.elim (fun e2 => (T.o3 g e).2.2 e2) (fun e2 => (T.o2 g e2).2.2 e)
  have nm : ∀ g, own2m a v g → ¬ own2 wa wv g := fun g e e2 => h.ap g e (e2.elim (fun e2 => .inr (.inr (.inl e2))) (fun e2 => .inr (.inr (.inr (.inr (.inl e2))))))
  refine ⟨rv, wv', vv, ⟨⟨k.blk T.hd nX, T.rs.keep k nra nrv, ⟨asked, hs⟩, k.owns T.vs nvv, T.d1, T.d2, T.d3, fun g e => ⟨(T.o1 g e).1, (T.o1 g e).2.1, fun z => ?_, (T.o1 g e).2.2.2⟩, fun g e => ?_, T.o3⟩, h.mm.keep k (nm a (.inl rfl)) (fun g hg => nm g (.inr hg)), fun g e e2 => ?_⟩, k.mono fun g e => .inl (e.elim (fun e => .inr (.inr (.inl e))) (fun e => .inr (.inr (.inr (.inr (.inl e)))))), fun g e => ?_⟩
  · rcases hn g z with z2 | z2
    · exact (T.o1 g e).2.2.1 z2
    · have := T.rvlt e; omega
  · rcases hn g e with e2 | e2
    · exact T.o2 g e2
    · exact ⟨fun z => by have := T.lt; omega, fun z => by have := T.ralt; omega, fun z => by have := T.vvlt z; omega⟩
  · have hl := h.lt e
    rcases e2 with z | z | z | z | z | z
    · exact h.ap g e (.inl z)
    · exact h.ap g e (.inr (.inl z))
    · exact h.ap g e (.inr (.inr (.inl z)))
    · exact h.ap g e (.inr (.inr (.inr (.inl z))))
    · rcases hn g z with z2 | z2
      · exact h.ap g e (.inr (.inr (.inr (.inr (.inl z2)))))
      · omega
    · exact h.ap g e (.inr (.inr (.inr (.inr (.inr z)))))
  · rcases e with z | z | z | z | z | z
    · exact .inl (.inl z)
    · exact .inl (.inr (.inl z))
    · exact .inl (.inr (.inr (.inl z)))
    · exact .inl (.inr (.inr (.inr (.inl z))))
    · rcases hn g z with z2 | z2
      · exact .inl (.inr (.inr (.inr (.inr (.inl z2)))))
      · exact .inr z2
    · exact .inl (.inr (.inr (.inr (.inr (.inr z)))))
theorem NX.km (h : NX w a v M X ra wa rv wv vv t) {M' : MemS} {t' : TxS} (k : Keeps (kXm X a v) w w') (hN : NX w' a v M' X ra wa rv wv vv t') : NXP w w' a v M' X ra wa rv wv vv t' :=
  ⟨rv, wv, vv, hN, k.mono (fun g e => e.elim (fun e => .inl (.inl e)) .inr), fun _ e => .inl e⟩
end
theorem NX.far {w w' : World} {a X ra wa : Nat} {v rv wv vv : Value} {M : MemS} {t : TxS} {S : Nat → Prop} (h : NX w a v M X ra wa rv wv vv t) (k : Keeps S w w') (hS : ∀ g, txO X ra wa rv wv vv g ∨ own2m a v g → ¬ S g) : NX w' a v M X ra wa rv wv vv t :=
  ⟨h.tx.keep k (fun g e => hS g (.inl e)), h.mm.keep k (hS a (.inr (.inl rfl))) (fun g hg => hS g (.inr (.inr hg))), h.ap⟩
theorem NXP.after {w W w2 : World} {a X ra wa : Nat} {v rv wv vv : Value} {M : MemS} {t : TxS} (k : Keeps (kXm X a v) w W) (h : NXP W w2 a v M X ra wa rv wv vv t) : NXP w w2 a v M X ra wa rv wv vv t := by
  obtain ⟨rv', wv', vv', h1, h2, h3⟩ := h
  exact ⟨rv', wv', vv', h1, (k.mono (fun g e => e.elim (fun e => .inl (.inl e)) .inr)).trans h2, fun g e => (h3 g e).elim .inl (fun z => .inr (Nat.le_trans k.size z))⟩
theorem NXP.then {w W w2 : World} {a X ra wa : Nat} {v rv wv vv : Value} {M' : MemS} {t' : TxS} {rv' wv' vv' : Value} (k : Keeps (fun g => txO X ra wa rv wv vv g ∨ own2m a v g) w W) (hg : ∀ g, txO X ra wa rv' wv' vv' g → txO X ra wa rv wv vv g ∨ w.heap.size ≤ g) (h2 : NXP W w2 a v M' X ra wa rv' wv' vv' t') : NXP w w2 a v M' X ra wa rv wv vv t' := by
  obtain ⟨r2, w2', v2, g1, g2, g3⟩ := h2
  refine ⟨r2, w2', v2, g1, k.trans' g2 (fun i hi e => ?_), fun g e => ?_⟩
  · rcases e with e | e
    · rcases hg i e with e2 | e2
      · exact .inl e2
      · omega
    · exact .inr e
  · rcases g3 g e with e2 | e2
    · exact hg g e2
    · have := k.size; exact .inr (by omega)
theorem xrput_any {w : World} {a X ra wa : Nat} {v rv wv vv : Value} {M : MemS} {t : TxS} (h : NX w a v M X ra wa rv wv vv t) (k x : Int) : Calls Try.prog 73 #[.pointer (some ⟨ra, 0, none⟩), .int .i64 k, .int .i64 x] w fun e w' => e = .returned (.bool (roomFor 32 t.R k)) ∧ NXP w w' a v M X ra wa rv wv vv { t with R := putL 32 t.R k x } := by
  have hs := h.tx.rs
  have same : ∀ w', Keeps NoS w w' → NXP w w' a v M X ra wa rv wv vv t := fun w' hw => h.self.no hw
  by_cases hk : hasKey t.R k = true
  · have e1 : roomFor 32 t.R k = true := by simp [roomFor, hk]
    have e2 : putL 32 t.R k x = t.R := by simp [putL, hk]
    rw [e1, e2]
    exact (rput_has ra rv 32 t.R k x w hs hk).mono fun e w' ⟨he, hw⟩ => ⟨he, same w' hw⟩
  · have hk : hasKey t.R k = false := by simpa using hk
    by_cases hr : (t.R.length : Int) < 32
    · have e1 : roomFor 32 t.R k = true := by simp [roomFor, hr]
      have e2 : putL 32 t.R k x = t.R ++ [(k, x)] := by simp [putL, hk, hr]
      rw [e1, e2]
      exact (rput_new ra rv 32 t.R k x w hs hk hr (by omega)).mono fun e w' ⟨he, v', hv, hkp, hn⟩ => ⟨he, h.rset hv hkp hn⟩
    · have e1 : roomFor 32 t.R k = false := by simp [roomFor, hk, hr]
      have e2 : putL 32 t.R k x = t.R := by simp [putL, hk, hr]
      rw [e1, e2]
      exact (rput_full ra rv 32 t.R k x w hs e1).mono fun e w' ⟨he, hw⟩ => ⟨he, same w' hw⟩
end Go.Proofs.Ytfmamedkiaimpaa
