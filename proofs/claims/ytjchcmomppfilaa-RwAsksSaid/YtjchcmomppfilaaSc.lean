/- Two memories beside blocks that stand. -/
import Derived.Test.YtjchcmomppfilaaCondqAsksS
import Derived.Test.YtjchcmomppfilaaMcsTold
import Derived.Test.YtjchcmomppfilaaOne
namespace Go.Proofs.Ytjchcmomppfilaa
open Go.RowKit
theorem Bg.turn {w wr w' : World} {l : List (Nat × TypeId × Array Value)} {S : Nat → Prop} (h : Bg w wr l) (k : Keeps S wr w') (hS : ∀ x ∈ l, ¬ S x.1) (hl : ∀ i, S i → w.heap.size ≤ i) : Bg w w' l :=
  ⟨h.kp.trans' k (fun i hi e => by have := hl i e; omega), h.lo, fun x hx => k.blk (h.bk x hx) (hS x hx)⟩
/-- two memories, and blocks apart from them -/
structure Sc (w wr : World) (a c : Nat) (v u : Value) (M N : MemS) (l : List (Nat × TypeId × Array Value)) : Prop where
  tw : TwoR w wr a c v u M N
  bg : Bg w wr l
  ap : ∀ x ∈ l, ¬ own2m a v x.1 ∧ ¬ own2m c u x.1
/-- a block apart from all -/
def OffO (w : World) (l : List (Nat × TypeId × Array Value)) (a c : Nat) (v u : Value) (g : Nat) : Prop := Off w l g ∧ ¬ own2m a v g ∧ ¬ own2m c u g
section
variable {w wr w' : World} {a c : Nat} {v u : Value} {M N M' : MemS} {l : List (Nat × TypeId × Array Value)}
theorem Sc.no (h : Sc w wr a c v u M N l) (k : Keeps NoS wr w') : Sc w w' a c v u M N l := ⟨h.tw.keep k, h.bg.no k, h.ap⟩
theorem Sc.turnS (h : Sc w wr a c v u M N l) (hm : MemAt w' a v M') (k : Keeps (own2m a v) wr w') : Sc w w' a c v u M' N l :=
  ⟨h.tw.turnS hm k, h.bg.turn k (fun x hx => (h.ap x hx).1) (fun i hi => hi.elim (fun e => e ▸ h.tw.s.na) (fun e => h.tw.s.nv i e)), h.ap⟩
theorem Sc.turnR (h : Sc w wr a c v u M N l) (hm : RefAt w' c u M') (k : Keeps (own2m c u) wr w') : Sc w w' a c v u M M' l :=
  ⟨h.tw.turnR hm k, h.bg.turn k (fun x hx => (h.ap x hx).2) (fun i hi => hi.elim (fun e => e ▸ h.tw.r.na) (fun e => h.tw.r.nv i e)), h.ap⟩
theorem Sc.fresh (h : Sc w wr a c v u M N l) : OffO w l a c v u wr.heap.size :=
  ⟨h.bg.fresh, not_own (fun e => by have := blk_lt h.tw.s.m.hd; omega) (fun e => by have := h.tw.s.m.own_lt e; omega), not_own (fun e => by have := blk_lt h.tw.r.m.hd; omega) (fun e => by have := h.tw.r.m.own_lt e; omega)⟩
theorem Sc.far {g : Nat} (h : Sc w wr a c v u M N l) (f : OffO w l a c v u g) (k : Keeps (just g) wr w') : Sc w w' a c v u M N l :=
  ⟨h.tw.far f.2.1 f.2.2 f.1.1 k, h.bg.far f.1 k, h.ap⟩
theorem Sc.push {g : Nat} {T : TypeId} {cs : Array Value} (h : Sc w wr a c v u M N l) (f : OffO w l a c v u g) (hb : Blk wr g T cs) : Sc w wr a c v u M N ((g, T, cs) :: l) :=
  ⟨h.tw, h.bg.push f.1.1 hb, fun x hx => (List.mem_cons.1 hx).elim (fun e => by rw [e]; exact f.2) (h.ap x)⟩
end
theorem Blk.keep {w w' : World} {S : Nat → Prop} {g : Nat} {T : TypeId} {cs : Array Value} (h : Blk w g T cs) (k : Keeps S w w') (hS : ¬ S g) : Blk w' g T cs := k.blk h hS
theorem Blk.cells5h {wr : World} {g : Nat} {T : TypeId} {a b c d e : Value} (h : Blk wr g T #[a, b, c, d, e]) : (wr.cell? ⟨g, 0, none⟩ = some a ∧ wr.cell? ⟨g, 1, none⟩ = some b ∧ wr.cell? ⟨g, 2, none⟩ = some c ∧ wr.cell? ⟨g, 3, none⟩ = some d ∧ wr.cell? ⟨g, 4, none⟩ = some e) := h.cells5
theorem Blk.put5 {wr : World} {g : Nat} {T : TypeId} {a b c d e : Value} (h : Blk wr g T #[a, b, c, d, e]) (a' b' c' d' e' : Value) : Blk (((((wr.setCell ⟨g, 0, none⟩ a').setCell ⟨g, 1, none⟩ b').setCell ⟨g, 2, none⟩ c').setCell ⟨g, 3, none⟩ d').setCell ⟨g, 4, none⟩ e') g T #[a', b', c', d', e'] :=
  blk_set (blk_set (blk_set (blk_set (blk_set h 0 _) 1 _) 2 _) 3 _) 4 _
theorem kput5 {wr : World} (g : Nat) (a' b' c' d' e' : Value) : Keeps (just g) wr (((((wr.setCell ⟨g, 0, none⟩ a').setCell ⟨g, 1, none⟩ b').setCell ⟨g, 2, none⟩ c').setCell ⟨g, 3, none⟩ d').setCell ⟨g, 4, none⟩ e') :=
  (((((Keeps.refl (just g) wr).setCell (p := ⟨g, 0, none⟩) (fun _ => rfl) _).setCell (p := ⟨g, 1, none⟩) (fun _ => rfl) _).setCell (p := ⟨g, 2, none⟩) (fun _ => rfl) _).setCell (p := ⟨g, 3, none⟩) (fun _ => rfl) _).setCell (p := ⟨g, 4, none⟩) (fun _ => rfl) _
/-- 48 words in a block of their own -/
structure Zr (wr : World) (g : Nat) (zs : List Int) : Prop where
  own : wr.ownsRow 0 2 1 (.slice (some ⟨g, 0, none⟩) 48 48) 48 (intsV zs)
  ln : zs.length = 48
section
variable {w wr w' : World} {g : Nat} {zs : List Int} {S : Nat → Prop}
theorem Zr.keep (h : Zr wr g zs) (k : Keeps S wr w') (hS : ¬ S g) : Zr w' g zs := ⟨k.owns h.own (fun i hi => (Option.some.inj (show some g = some i from hi)) ▸ hS), h.ln⟩
theorem Zr.no (h : Zr wr g zs) (k : Keeps NoS wr w') : Zr w' g zs := h.keep k (fun f => f)
theorem Zr.cell (h : Zr wr g zs) {i : Nat} (hi : i < 48) : wr.cell? ⟨g, i, none⟩ = some (.int .i64 (zs.getD i 0)) := by
  have := h.own.cells (g := g) rfl i _ (intsV_get zs i (by rw [h.ln]; exact hi))
  rwa [add_zero_off] at this
theorem Zr.free (h : Zr wr g zs) (i : Nat) : wr.frozen? ⟨g, i, none⟩ = false := by
  rcases h.own.2 with ⟨_, hz⟩ | ⟨g', cap, cur, hv, _, hg, _⟩
  · omega
  · have e : g' = g := Option.some.inj (show some g' = some g from (congrArg Value.ownBlock hv).symm)
    subst e; exact blk_free hg i
theorem Zr.lt (h : Zr wr g zs) : g < wr.heap.size := (h.own.lt g rfl).2
theorem Zr.put (h : Zr wr g zs) (i : Nat) (x : Int) : Zr (wr.setCell ⟨g, i, none⟩ (.int .i64 x)) g (zs.set i x) :=
  ⟨by have := (h.own.stored i (.int .i64 x)).1; simpa [intsV, List.map_set] using this, by simpa using h.ln⟩
end
end Go.Proofs.Ytjchcmomppfilaa
