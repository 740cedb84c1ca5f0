/- Blocks that stand while others come: what the Asks laws have at hand. -/
import Derived.Test.YtjchcmomppfilaaMem
import Derived.Test.YtjchcmomppfilaaBox
namespace Go.Proofs.Ytjchcmomppfilaa
open Go.RowKit
/-- blocks that hold what they hold, all of them laid behind w -/
structure Bg (w wr : World) (l : List (Nat × TypeId × Array Value)) : Prop where
  kp : Keeps NoS w wr
  lo : ∀ x ∈ l, w.heap.size ≤ x.1
  bk : ∀ x ∈ l, wr.heap[x.1]? = some (.cells x.2.2 x.2.1 (0, 0))
section
variable {w wr w' : World} {l : List (Nat × TypeId × Array Value)}
theorem Bg.nil (w : World) : Bg w w [] := ⟨Keeps.refl NoS w, by simp, by simp⟩
theorem Bg.no (h : Bg w wr l) (k : Keeps NoS wr w') : Bg w w' l := ⟨h.kp.trans k, h.lo, fun x hx => k.blk (h.bk x hx) (fun f => f)⟩
theorem Bg.push (h : Bg w wr l) {g : Nat} {T : TypeId} {cs : Array Value} (hg : w.heap.size ≤ g) (hb : wr.heap[g]? = some (.cells cs T (0, 0))) : Bg w wr ((g, T, cs) :: l) :=
  ⟨h.kp, fun x hx => (List.mem_cons.1 hx).elim (fun e => by rw [e]; exact hg) (h.lo x), fun x hx => (List.mem_cons.1 hx).elim (fun e => by rw [e]; exact hb) (h.bk x)⟩
theorem Bg.new (h : Bg w wr l) (cs : Array Value) (T : TypeId) : Bg w (wr.alloc (.cells cs T)) ((wr.heap.size, T, cs) :: l) :=
  (h.no ((Keeps.refl NoS wr).alloc _)).push h.kp.size (heap_alloc_new wr (.cells cs T))
theorem Bg.lt (h : Bg w wr l) {x : Nat × TypeId × Array Value} (hx : x ∈ l) : x.1 < wr.heap.size := blk_lt (h.bk x hx)
/-- a block apart from these -/
def Off (w : World) (l : List (Nat × TypeId × Array Value)) (g : Nat) : Prop := w.heap.size ≤ g ∧ ∀ x ∈ l, x.1 ≠ g
theorem Bg.fresh (h : Bg w wr l) : Off w l wr.heap.size := ⟨h.kp.size, fun x hx => by have := h.lt hx; omega⟩
theorem Bg.far (h : Bg w wr l) {g : Nat} (f : Off w l g) (k : Keeps (just g) wr w') : Bg w w' l :=
  ⟨h.kp.trans' k (fun i hi e => by have e' : i = g := e; have := f.1; omega), h.lo, fun x hx => k.blk (h.bk x hx) (fun e => f.2 x hx e)⟩
theorem Bg.mono (h : Bg w wr l) {l' : List (Nat × TypeId × Array Value)} (hl : ∀ x ∈ l', x ∈ l) : Bg w wr l' := ⟨h.kp, fun x hx => h.lo x (hl x hx), fun x hx => h.bk x (hl x hx)⟩
theorem Bg.tl {x : Nat × TypeId × Array Value} (h : Bg w wr (x :: l)) : Bg w wr l := h.mono fun _ hx => List.mem_cons_of_mem _ hx
theorem Bg.l0 {g : Nat} {T : TypeId} {cs : Array Value} (h : Bg w wr ((g, T, cs) :: l)) : w.heap.size ≤ g := h.lo (g, T, cs) (List.mem_cons_self ..)
/-- a block of cells -/
def Blk (w : World) (g : Nat) (T : TypeId) (cs : Array Value) : Prop := w.heap[g]? = some (.cells cs T (0, 0))
theorem Blk.no {g : Nat} {T : TypeId} {cs : Array Value} (h : Blk wr g T cs) (k : Keeps NoS wr w') : Blk w' g T cs := k.blk h (fun f => f)
theorem Blk.far {g g' : Nat} {T : TypeId} {cs : Array Value} (h : Blk wr g T cs) (k : Keeps (just g') wr w') (hn : g ≠ g') : Blk w' g T cs := k.blk h (fun e => hn e)
theorem Blk.new (w : World) (cs : Array Value) (T : TypeId) : Blk (w.alloc (.cells cs T)) w.heap.size T cs := heap_alloc_new w (.cells cs T)
theorem Blk.lt {g : Nat} {T : TypeId} {cs : Array Value} (h : Blk wr g T cs) : g < wr.heap.size := blk_lt h
theorem Blk.cell {g : Nat} {T : TypeId} {cs : Array Value} (h : Blk wr g T cs) (j : Nat) : wr.cell? ⟨g, j, none⟩ = cs[j]? := blk_cell h j
theorem Blk.free {g : Nat} {T : TypeId} {cs : Array Value} (h : Blk wr g T cs) (j : Nat) : wr.frozen? ⟨g, j, none⟩ = false := blk_free h j
theorem Bg.b0 {g : Nat} {T : TypeId} {cs : Array Value} (h : Bg w wr ((g, T, cs) :: l)) : Blk wr g T cs := h.bk (g, T, cs) (List.mem_cons_self ..)
theorem Bg.blk (h : Bg w wr l) {g : Nat} {T : TypeId} {cs : Array Value} (hx : (g, T, cs) ∈ l) : Blk wr g T cs := h.bk _ hx
end
section
variable {wr : World} {g : Nat} {T : TypeId}
theorem Blk.cells3 {a b c : Value} (h : Blk wr g T #[a, b, c]) : (wr.cell? ⟨g, 0, none⟩ = some a ∧ wr.cell? ⟨g, 1, none⟩ = some b ∧ wr.cell? ⟨g, 2, none⟩ = some c) := ⟨(h.cell 0).trans rfl, (h.cell 1).trans rfl, (h.cell 2).trans rfl⟩
theorem Blk.cells5 {a b c d e : Value} (h : Blk wr g T #[a, b, c, d, e]) : (wr.cell? ⟨g, 0, none⟩ = some a ∧ wr.cell? ⟨g, 1, none⟩ = some b ∧ wr.cell? ⟨g, 2, none⟩ = some c ∧ wr.cell? ⟨g, 3, none⟩ = some d ∧ wr.cell? ⟨g, 4, none⟩ = some e) := ⟨(h.cell 0).trans rfl, (h.cell 1).trans rfl, (h.cell 2).trans rfl, (h.cell 3).trans rfl, (h.cell 4).trans rfl⟩
theorem Blk.cells6 {a b c d e f : Value} (h : Blk wr g T #[a, b, c, d, e, f]) : (wr.cell? ⟨g, 0, none⟩ = some a ∧ wr.cell? ⟨g, 1, none⟩ = some b ∧ wr.cell? ⟨g, 2, none⟩ = some c ∧ wr.cell? ⟨g, 3, none⟩ = some d ∧ wr.cell? ⟨g, 4, none⟩ = some e ∧ wr.cell? ⟨g, 5, none⟩ = some f) := ⟨(h.cell 0).trans rfl, (h.cell 1).trans rfl, (h.cell 2).trans rfl, (h.cell 3).trans rfl, (h.cell 4).trans rfl, (h.cell 5).trans rfl⟩
theorem Blk.put3 {a b c : Value} (h : Blk wr g T #[a, b, c]) (a' b' c' : Value) : Blk (((wr.setCell ⟨g, 0, none⟩ a').setCell ⟨g, 1, none⟩ b').setCell ⟨g, 2, none⟩ c') g T #[a', b', c'] := blk_set (blk_set (blk_set h 0 _) 1 _) 2 _
theorem Blk.put6 {a b c d e f : Value} (h : Blk wr g T #[a, b, c, d, e, f]) (a' b' c' d' e' f' : Value) : Blk ((((((wr.setCell ⟨g, 0, none⟩ a').setCell ⟨g, 1, none⟩ b').setCell ⟨g, 2, none⟩ c').setCell ⟨g, 3, none⟩ d').setCell ⟨g, 4, none⟩ e').setCell ⟨g, 5, none⟩ f') g T #[a', b', c', d', e', f'] :=
  blk_set (blk_set (blk_set (blk_set (blk_set (blk_set h 0 _) 1 _) 2 _) 3 _) 4 _) 5 _
theorem kput3 (g : Nat) (a' b' c' : Value) : Keeps (just g) wr (((wr.setCell ⟨g, 0, none⟩ a').setCell ⟨g, 1, none⟩ b').setCell ⟨g, 2, none⟩ c') :=
  (((Keeps.refl (just g) wr).setCell (p := ⟨g, 0, none⟩) (fun _ => rfl) _).setCell (p := ⟨g, 1, none⟩) (fun _ => rfl) _).setCell (p := ⟨g, 2, none⟩) (fun _ => rfl) _
theorem kput6 (g : Nat) (a' b' c' d' e' f' : Value) : Keeps (just g) wr ((((((wr.setCell ⟨g, 0, none⟩ a').setCell ⟨g, 1, none⟩ b').setCell ⟨g, 2, none⟩ c').setCell ⟨g, 3, none⟩ d').setCell ⟨g, 4, none⟩ e').setCell ⟨g, 5, none⟩ f') :=
  ((((((Keeps.refl (just g) wr).setCell (p := ⟨g, 0, none⟩) (fun _ => rfl) _).setCell (p := ⟨g, 1, none⟩) (fun _ => rfl) _).setCell (p := ⟨g, 2, none⟩) (fun _ => rfl) _).setCell (p := ⟨g, 3, none⟩) (fun _ => rfl) _).setCell (p := ⟨g, 4, none⟩) (fun _ => rfl) _).setCell (p := ⟨g, 5, none⟩) (fun _ => rfl) _
end
end Go.Proofs.Ytjchcmomppfilaa
