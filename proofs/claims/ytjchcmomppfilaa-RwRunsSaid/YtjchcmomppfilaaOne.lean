/- A lock and four hands: what stays where (laws of one memory). -/
import Derived.Test.YtjchcmomppfilaaRow
import Derived.Test.YtjchcmomppfilaaHands
import Derived.Test.YtjchcmomppfilaaHeld
namespace Go.Proofs.Ytjchcmomppfilaa
open Go.RowKit
theorem TwoT.keepS {T U : TypeId} {S : Nat → Prop} {W w w' : World} {a c G : Nat} {v u : Value} {M N : MemS} (h : TwoT T U W w a c v u M N) (hA : Apart W G a c v u) (k : Keeps S w w') (hS : ∀ g, S g → G ≤ g) : TwoT T U W w' a c v u M N :=
  ⟨⟨h.s.m.keep k (fun e => by have := hS _ e; have := hA.a; omega) (fun i hi e => by have := hS _ e; have := hA.v i hi; omega), h.s.na, h.s.nv, h.s.kp.trans' k (fun i hi e => by have := hS _ e; have := hA.w; omega)⟩,
   ⟨h.r.m.keep k (fun e => by have := hS _ e; have := hA.c; omega) (fun i hi e => by have := hS _ e; have := hA.u i hi; omega), h.r.na, h.r.nv, h.s.kp.trans' k (fun i hi e => by have := hS _ e; have := hA.w; omega)⟩, h.ac, h.vc, h.ua, h.vu⟩
/-- one memory that is used, one that is not, and a row of hands in block H -/
structure OdS (W w : World) (a c : Nat) (v u : Value) (M : MemS) (H : Nat) (f : Nat → HandS) : Prop where
  t : TwoR W w a c v u M (M0 48)
  x : HandsAt 4 w H f
theorem OdS.no {W w w' : World} {a c H : Nat} {v u : Value} {M : MemS} {f : Nat → HandS} (h : OdS W w a c v u M H f) (k : Keeps NoS w w') : OdS W w' a c v u M H f := ⟨h.t.keep k, h.x.keep k (fun f => f)⟩
theorem OdS.turn {W w w' : World} {a c G H : Nat} {v u : Value} {M M' : MemS} {f : Nat → HandS} (h : OdS W w a c v u M H f) (hA : Apart W G a c v u) (hG : G ≤ H) (hm : MemAt w' a v M') (k : Keeps (own2m a v) w w') : OdS W w' a c v u M' H f :=
  ⟨h.t.turnS hm k, h.x.keep k (hA.na hG)⟩
theorem OdS.put {W w : World} {a c G H : Nat} {v u : Value} {M : MemS} {f : Nat → HandS} (h : OdS W w a c v u M H f) (hA : Apart W G a c v u) (hG : G ≤ H) {t : Nat} (ht : t < 4) (x : HandS) : OdS W (setH w H t x) a c v u M H (hput f t x) :=
  ⟨h.t.setH hA hG t x, h.x.setH t ht x⟩
theorem OdS.grown {W w w' : World} {a c G H : Nat} {v u o : Value} {M : MemS} {f : Nat → HandS} (h : OdS W w a c v u M H f) (hA : Apart W G a c v u) (hG : G ≤ H) (k : w.grownBy w' o.ownBlock) (ho : ∀ g, o.ownBlock = some g → G ≤ g ∧ g ≠ H) : OdS W w' a c v u M H f := by
  have hk : Keeps (fun g => o.ownBlock = some g) w w' := (Keeps.refl _ w).grown k (fun g hg _ => hg)
  exact ⟨h.t.keepS hA hk (fun g hg => (ho g hg).1), h.x.keep hk (fun e => (ho _ e).2 rfl)⟩
theorem OdS.congr {W w : World} {a c H : Nat} {v u : Value} {M : MemS} {f g : Nat → HandS} (h : OdS W w a c v u M H f) (e : ∀ t, t < 4 → f t = g t) : OdS W w a c v u M H g := ⟨h.t, h.x.congr e⟩
def natsI (l : List Nat) : List Int := l.map fun t : Nat => (t : Int)
theorem natsI_len (l : List Nat) : (natsI l).length = l.length := by simp [natsI]
theorem natsI_get (l : List Nat) (k : Nat) : (natsI l).getD k 0 = ((l.getD k 0 : Nat) : Int) := by
  unfold natsI
  rw [List.getD_eq_getElem?_getD, List.getD_eq_getElem?_getD, List.getElem?_map]
  cases l[k]? <;> rfl
theorem natsI_app (l m : List Nat) : natsI (l ++ m) = natsI l ++ natsI m := by simp [natsI]
theorem natsI_take (l : List Nat) (k : Nat) : natsI (l.take k) = (natsI l).take k := by simp [natsI, List.map_take]
theorem natsI_drop (l : List Nat) (k : Nat) : natsI (l.drop k) = (natsI l).drop k := by simp [natsI, List.map_drop]
theorem RowI.lower {T : TypeId} {w : World} {lo lo' : Nat} {v : Value} {l : List Int} (h : RowI T w lo v l) (hl : lo' ≤ lo) : RowI T w lo' v l := ⟨h.own, fun g hg => Nat.le_trans hl (h.lo g hg)⟩
/-- cells in the midst of a row -/
theorem sub_cells {w : World} {g n k m off : Nat} {l : List Nat} (hc : ∀ j, j < n → w.cell? ⟨g, j, none⟩ = some (.int .i64 ((natsI l).getD j 0))) (h : k + m ≤ n) (ho : 0 < m → off = k) :
    ∀ j, j < m → w.cell? ((⟨g, off, none⟩ : Addr).add j) = some (.int .i64 ((natsI ((l.drop k).take m)).getD j 0)) := by
  intro j hj
  obtain rfl := ho (by omega)
  rw [Go.WideShapes.add_plain, hc (off + j) (by omega), natsI_get, natsI_get]
  congr 3
  rw [List.getD_eq_getElem?_getD, List.getD_eq_getElem?_getD, List.getElem?_take, if_pos hj, List.getElem?_drop]
theorem RowI.empty {T : TypeId} {w : World} {lo : Nat} (h : lo ≤ w.heap.size) : RowI T (w.alloc (.cells #[] T)).drew lo (.slice (some ⟨w.heap.size, 0, none⟩) 0 0) [] :=
  RowI.no (w := w.alloc (.cells #[] T)) ⟨owns_empty _ _ _, fun g hg => by simp [Value.ownBlock] at hg; omega⟩ ((Keeps.refl NoS _).drew)
def lenV : Value → Nat
  | .slice _ n _ => n
  | _ => 0
theorem setH_row {T : TypeId} {w : World} {lo H : Nat} {v : Value} {l : List Int} (h : RowI T w lo v l) (hv : v.ownBlock ≠ some H) (t : Nat) (x : HandS) : RowI T (setH w H t x) lo v l := by
  have k : Keeps (just H) w (setH w H t x) := (((((Keeps.refl (just H) w).setCell (p := ⟨H, _, none⟩) (fun _ => rfl) _).setCell (p := ⟨H, _, none⟩) (fun _ => rfl) _).setCell (p := ⟨H, _, none⟩) (fun _ => rfl) _).setCell (p := ⟨H, _, none⟩) (fun _ => rfl) _).setCell (p := ⟨H, _, none⟩) (fun _ => rfl) _
  exact h.keep k (fun g hg e => hv (by have e' : g = H := e; rw [hg, e']))
theorem RowI.setH {T : TypeId} {w : World} {lo H : Nat} {v : Value} {l : List Int} (h : RowI T w lo v l) (hH : H < lo) (t : Nat) (x : HandS) : RowI T (Proofs.Ytjchcmomppfilaa.setH w H t x) lo v l :=
  setH_row h (fun e => by have := h.lo _ e; omega) t x
theorem RowI.ownK {T : TypeId} {W w w' : World} {lo a c G : Nat} {v u vv : Value} {l : List Int} (h : RowI T w lo vv l) (hA : Apart W G a c v u) (hG : G ≤ lo) (k : Keeps (own2m a v) w w') : RowI T w' lo vv l :=
  h.keep k (fun g hg => hA.na (by have := h.lo g hg; omega))
theorem HandsAt.at {n : Nat} {w : World} {G : Nat} {f : Nat → HandS} (h : HandsAt n w G f) {t : Nat} (ht : t < n) {a b s : Int} {r : Bool} {x : Int} (hf : f t = ⟨a, b, s, r, x⟩) :
    w.cell? ⟨G, t * 5, none⟩ = some (.int .i64 a) ∧ w.cell? ⟨G, t * 5 + 1, none⟩ = some (.int .i64 b) ∧ w.cell? ⟨G, t * 5 + 2, none⟩ = some (.int .i64 s) ∧ w.cell? ⟨G, t * 5 + 3, none⟩ = some (.bool r) ∧ w.cell? ⟨G, t * 5 + 4, none⟩ = some (.int .i64 x) := by
  have := h.cell t ht
  rw [hf] at this
  exact this
theorem HandsAt.frees {n : Nat} {w : World} {G : Nat} {f : Nat → HandS} (h : HandsAt n w G f) (t : Nat) : w.frozen? ⟨G, t * 5, none⟩ = false ∧ w.frozen? ⟨G, t * 5 + 1, none⟩ = false ∧ w.frozen? ⟨G, t * 5 + 2, none⟩ = false ∧ w.frozen? ⟨G, t * 5 + 3, none⟩ = false ∧ w.frozen? ⟨G, t * 5 + 4, none⟩ = false :=
  ⟨h.free _, h.free _, h.free _, h.free _, h.free _⟩
theorem mapCs {w : World} {B : Nat} (h : MapAt w B 2 2 4 0 2) : (w.cell? ⟨B, 0, none⟩ = some (.int .i64 2) ∧ w.cell? ⟨B, 1, none⟩ = some (.int .i64 2) ∧ w.cell? ⟨B, 2, none⟩ = some (.int .i64 4) ∧ w.cell? ⟨B, 3, none⟩ = some (.int .i64 0) ∧ w.cell? ⟨B, 4, none⟩ = some (.int .i64 2)) := h
end Go.Proofs.Ytjchcmomppfilaa
