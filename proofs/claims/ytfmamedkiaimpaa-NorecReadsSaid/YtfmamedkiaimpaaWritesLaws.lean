/- A set of writes of its own in a law; layer 14's example. -/
import Derived.Test.YtfmamedkiaimpaaWritesPlain
namespace Go.Proofs.Ytfmamedkiaimpaa
open Go.RowKit
/-- A set at block a, all its own, in a world that has kept what w held. -/
def WrIn (w wr : World) (a : Nat) (room asked : Int) (l : List (Int × Int)) : Prop :=
  ∃ v, WrAt wr a v room l asked ∧ w.heap.size ≤ a ∧ (∀ g, v.ownBlock = some g → w.heap.size ≤ g) ∧ Keeps NoS w wr
theorem WrIn.keep {w wr w' : World} {a : Nat} {room asked : Int} {l : List (Int × Int)} (h : WrIn w wr a room asked l) (k : Keeps NoS wr w') : WrIn w w' a room asked l := by
  obtain ⟨v, h1, h2, h3, h4⟩ := h
  exact ⟨v, h1.keep k (fun f => f) (fun _ _ f => f), h2, h3, h4.trans k⟩
theorem WrIn.kept {w wr : World} {a : Nat} {room asked : Int} {l : List (Int × Int)} (h : WrIn w wr a room asked l) : Keeps NoS w wr := by
  obtain ⟨v, h1, h2, h3, h4⟩ := h
  exact h4
theorem WrIn.drew {w wr : World} {a : Nat} {room asked : Int} {l : List (Int × Int)} (h : WrIn w wr a room asked l) : WrIn w wr.drew a room asked l := h.keep ((Keeps.refl _ _).drew)
theorem wput_in {w wr : World} {a : Nat} {room asked : Int} {l : List (Int × Int)} (h : WrIn w wr a room asked l) (hsm : l.length < 4096) (k x : Int) :
    Calls Try.prog 82 #[.pointer (some ⟨a, 0, none⟩), .int .i64 k, .int .i64 x] wr fun e w' => e = .returned (.bool (putOk room l k)) ∧ WrIn w w' a room asked (putW room l k x) := by
  obtain ⟨v, h1, h2, h3, h4⟩ := h
  refine (wput_any a v room asked l k x wr h1 hsm).mono ?_
  rintro e w' ⟨he, v', hv, hk, hn⟩
  refine ⟨he, v', hv, h2, fun g hg => (hn g hg).elim (h3 g) (fun h => Nat.le_trans h4.size h), h4.trans' hk (fun i hi ht => ?_)⟩
  rcases ht with rfl | ht
  · omega
  · have := h3 i ht; omega
theorem wget_into {w wr : World} {a : Nat} {room asked : Int} {l : List (Int × Int)} (h : WrIn w wr a room asked l) (k : Int) :
    Calls Try.prog 57 #[.pointer (some ⟨a, 0, none⟩), .int .i64 k] wr fun e w' => e = .returned (.tuple #[.int .i64 (getW l k), .bool (hasW l k)]) ∧ WrIn w w' a room (askedL l k asked) l := by
  obtain ⟨v, h1, h2, h3, h4⟩ := h
  refine (wget_any a v room asked l k wr h1).mono ?_
  rintro e w' ⟨he, hv, hk⟩
  refine ⟨he, v, hv, h2, h3, h4.trans' hk (fun i hi ht => ?_)⟩
  subst ht; omega
theorem wnew_in (n : Int) (w wr : World) (h : Keeps NoS w wr) : Calls Try.prog 65 #[.int .i64 n] wr fun e w' => e = .returned (.pointer (some ⟨wr.heap.size, 0, none⟩)) ∧ WrIn w w' wr.heap.size (min (max n 0) 32) 0 [] :=
  (wnew_any n wr).mono fun _ _ ⟨he, hs, hk, _⟩ => ⟨he, _, hs, h.size, by simp [Value.ownBlock], h.trans hk⟩
end Go.Proofs.Ytfmamedkiaimpaa
