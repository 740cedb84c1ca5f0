/- The document's example of layer 2; one or two memories in a law. -/
import Derived.Test.YtfmamedkiaimpaaMemMore
import Derived.Test.YtfmamedkiaimpaaBits
namespace Go.Proofs.Ytfmamedkiaimpaa
open Go.RowKit

/-- A memory at block a, all its own, in a world that has kept what w held. -/
structure MemInT (T : TypeId) (w wr : World) (a : Nat) (v : Value) (M : MemS) : Prop where
  m : MemT T wr a v M
  na : w.heap.size ≤ a
  nv : ∀ g, v.ownBlock = some g → w.heap.size ≤ g
  kp : Keeps NoS w wr
theorem MemInT.keep {T : TypeId} {w wr w' : World} {a : Nat} {v : Value} {M : MemS} (h : MemInT T w wr a v M) (k : Keeps NoS wr w') : MemInT T w w' a v M :=
  ⟨h.m.keep k (fun f => f) (fun _ _ f => f), h.na, h.nv, h.kp.trans k⟩
theorem MemInT.turn {T : TypeId} {w wr w' : World} {a : Nat} {v : Value} {M M' : MemS} (h : MemInT T w wr a v M) (hm : MemT T w' a v M') (k : Keeps (own2m a v) wr w') : MemInT T w w' a v M' := by
  refine ⟨hm, h.na, h.nv, h.kp.trans' k (fun i hi ht => ?_)⟩
  rcases ht with rfl | e
  · have := h.na; omega
  · have := h.nv i e; omega
theorem MemInT.turn1 {T : TypeId} {w wr w' : World} {a : Nat} {v : Value} {M M' : MemS} (h : MemInT T w wr a v M) (hm : MemT T w' a v M') (k : Keeps (just a) wr w') : MemInT T w w' a v M' :=
  h.turn hm (k.mono fun _ e => .inl e)
abbrev MemIn := MemInT 86
theorem fresh_in {T : TypeId} {w wr w' : World} {a : Nat} {v : Value} {M : MemS} (hk : Keeps NoS w wr) (hm : MemT T w' a v M) (h1 : wr.heap.size ≤ a) (h2 : ∀ g, v.ownBlock = some g → wr.heap.size ≤ g) (k : Keeps NoS wr w') : MemInT T w w' a v M :=
  ⟨hm, Nat.le_trans hk.size h1, fun g hg => Nat.le_trans hk.size (h2 g hg), hk.trans k⟩


/-- Two memories, apart. -/
structure TwoT (T U : TypeId) (w wr : World) (a c : Nat) (v u : Value) (M N : MemS) : Prop where
  s : MemInT T w wr a v M
  r : MemInT U w wr c u N
  ac : a ≠ c
  vc : v.ownBlock ≠ some c
  ua : u.ownBlock ≠ some a
  vu : ∀ g, v.ownBlock = some g → u.ownBlock ≠ some g
theorem TwoT.keep {T U : TypeId} {w wr w' : World} {a c : Nat} {v u : Value} {M N : MemS} (h : TwoT T U w wr a c v u M N) (k : Keeps NoS wr w') : TwoT T U w w' a c v u M N :=
  ⟨h.s.keep k, h.r.keep k, h.ac, h.vc, h.ua, h.vu⟩
theorem TwoT.turnS {T U : TypeId} {w wr w' : World} {a c : Nat} {v u : Value} {M N M' : MemS} (h : TwoT T U w wr a c v u M N) (hm : MemT T w' a v M') (k : Keeps (own2m a v) wr w') : TwoT T U w w' a c v u M' N := by
  have hs := h.s.turn hm k
  refine ⟨hs, ⟨h.r.m.keep k ?_ ?_, h.r.na, h.r.nv, hs.kp⟩, h.ac, h.vc, h.ua, h.vu⟩
  · rintro (e | e)
    · exact h.ac e.symm
    · exact h.vc e
  · rintro g hg (e | e)
    · exact h.ua (e ▸ hg)
    · exact h.vu g e hg
theorem TwoT.turnR {T U : TypeId} {w wr w' : World} {a c : Nat} {v u : Value} {M N N' : MemS} (h : TwoT T U w wr a c v u M N) (hm : MemT U w' c u N') (k : Keeps (own2m c u) wr w') : TwoT T U w w' a c v u M N' := by
  have hs := h.r.turn hm k
  refine ⟨⟨h.s.m.keep k ?_ ?_, h.s.na, h.s.nv, hs.kp⟩, hs, h.ac, h.vc, h.ua, h.vu⟩
  · rintro (e | e)
    · exact h.ac e
    · exact h.ua e
  · rintro g hg (e | e)
    · exact h.vc (e ▸ hg)
    · exact h.vu g hg e
theorem MemT.own_lt {T : TypeId} {w : World} {a : Nat} {v : Value} {M : MemS} (h : MemT T w a v M) {g : Nat} (hg : v.ownBlock = some g) : g < w.heap.size := (h.ow.lt g hg).2
abbrev TwoM := TwoT 86 86
/-- a memory, and one that is made behind it -/
theorem TwoT.make {T U : TypeId} {w wr w' : World} {a c : Nat} {v u : Value} {M N : MemS} (h : MemInT T w wr a v M) (hm : MemT U w' c u N) (h1 : wr.heap.size ≤ c) (h2 : ∀ g, u.ownBlock = some g → wr.heap.size ≤ g) (k : Keeps NoS wr w') : TwoT T U w w' a c v u M N := by
  have ha := blk_lt h.m.hd
  refine ⟨h.keep k, fresh_in h.kp hm h1 h2 k, by omega, fun e => ?_, fun e => ?_, fun g hg hu => ?_⟩
  · have := h.m.own_lt e; omega
  · have := h2 _ e; omega
  · have := h.m.own_lt hg
    have := h2 _ hu; omega
end Go.Proofs.Ytfmamedkiaimpaa
