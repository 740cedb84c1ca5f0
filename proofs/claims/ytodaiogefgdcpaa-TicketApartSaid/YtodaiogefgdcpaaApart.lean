/- Two locks, two memories, three hands in blocks of their own: what TicketApart lays. -/
import Derived.Test.YtodaiogefgdcpaaTicketPlain
namespace Go.Proofs.Ytodaiogefgdcpaa
open Go.RowKit
abbrev HandB (w : World) (b : Nat) (h : HandS) : Prop := HandAt w 32 b h.t h.l h.s h.r h.x
/-- the five cells of a hand's own block -/
def setB (w : World) (G : Nat) (h : HandS) : World := ((((w.setCell ⟨G, 0, none⟩ (.int .i64 h.t)).setCell ⟨G, 1, none⟩ (.int .i64 h.l)).setCell ⟨G, 2, none⟩ (.int .i64 h.s)).setCell ⟨G, 3, none⟩ (.bool h.r)).setCell ⟨G, 4, none⟩ (.int .i64 h.x)
theorem HandAt.setB {w : World} {G : Nat} {x : HandS} (h : HandB w G x) (y : HandS) : HandB (setB w G y) G y :=
  blk_set (blk_set (blk_set (blk_set (blk_set h 0 _) 1 _) 2 _) 3 _) 4 _
theorem HandAt.outB {w : World} {G g : Nat} {x : HandS} (h : HandB w G x) (hg : G ≠ g) (y : HandS) : HandB (Proofs.Ytodaiogefgdcpaa.setB w g y) G x := by
  have k : Keeps (just g) w (Proofs.Ytodaiogefgdcpaa.setB w g y) := (((((Keeps.refl (just g) w).setCell (p := ⟨g, _, none⟩) (fun _ => rfl) _).setCell (p := ⟨g, _, none⟩) (fun _ => rfl) _).setCell (p := ⟨g, _, none⟩) (fun _ => rfl) _).setCell (p := ⟨g, _, none⟩) (fun _ => rfl) _).setCell (p := ⟨g, _, none⟩) (fun _ => rfl) _
  exact h.keep k hg
theorem TwoT.setB {T U : TypeId} {w wr : World} {a c G g : Nat} {v u : Value} {M N : MemS} (h : TwoT T U w wr a c v u M N) (hA : Apart w G a c v u) (hg : G ≤ g) (x : HandS) : TwoT T U w (Proofs.Ytodaiogefgdcpaa.setB wr g x) a c v u M N :=
  ((((h.setCell hA ⟨g, _, none⟩ hg _).setCell hA ⟨g, _, none⟩ hg _).setCell hA ⟨g, _, none⟩ hg _).setCell hA ⟨g, _, none⟩ hg _).setCell hA ⟨g, _, none⟩ hg _
/-- two memories, three hands -/
structure ApS (W w : World) (a c : Nat) (v u : Value) (M N : MemS) (G : Nat) (x y : HandS) : Prop where
  t : TwoM W w a c v u M N
  A : HandB w G x
  B : HandB w (G + 1) y
  C : HandB w (G + 2) x
theorem ApS.keep {W w w' : World} {a c : Nat} {v u : Value} {M N : MemS} {G : Nat} {x y : HandS} (h : ApS W w a c v u M N G x y) (k : Keeps NoS w w') : ApS W w' a c v u M N G x y :=
  ⟨h.t.keep k, h.A.keep k (fun f => f), h.B.keep k (fun f => f), h.C.keep k (fun f => f)⟩
theorem apS_new {W w3 : World} {a c : Nat} {v u : Value} {M N : MemS} {G : Nat} (hG : w3.heap.size = G) (hT : TwoM W w3 a c v u M N) :
    ∃ w4, ((w3.alloc (.cells #[.int .i64 1, .int .i64 0, .int .i64 0, .bool false, .int .i64 0] 32)).alloc (.cells #[.int .i64 2, .int .i64 1, .int .i64 0, .bool false, .int .i64 0] 32)).alloc (.cells #[.int .i64 1, .int .i64 0, .int .i64 0, .bool false, .int .i64 0] 32) = w4 ∧ ApS W w4 a c v u M N G ⟨1, 0, 0, false, 0⟩ ⟨2, 1, 0, false, 0⟩ ∧ Apart W G a c v u := by
  subst hG
  refine ⟨_, rfl, ⟨hT.keep ((((Keeps.refl NoS w3).alloc _).alloc _).alloc _), ?_, ?_, ?_⟩, hT.apart⟩
  · exact (handAt_new w3 32 1 0 0 false 0).keep (((Keeps.refl NoS _).alloc _).alloc _) (fun f => f)
  · have := (handAt_new (w3.alloc (.cells #[.int .i64 1, .int .i64 0, .int .i64 0, .bool false, .int .i64 0] 32)) 32 2 1 0 false 0).keep ((Keeps.refl NoS _).alloc (.cells #[.int .i64 1, .int .i64 0, .int .i64 0, .bool false, .int .i64 0] 32)) (fun f => f)
    simpa using this
  · have := handAt_new ((w3.alloc (.cells #[.int .i64 1, .int .i64 0, .int .i64 0, .bool false, .int .i64 0] 32)).alloc (.cells #[.int .i64 2, .int .i64 1, .int .i64 0, .bool false, .int .i64 0] 32)) 32 1 0 0 false 0
    simpa using this
/-- the words of lock 0 are alike -/
structure AP (M N : MemS) (x y : HandS) : Prop where
  lM : M.L.length = 48
  lN : N.L.length = 48
  n5 : M.word 5 = N.word 5
  n6 : M.word 6 = N.word 6
  hx : x.t = 1 ∧ x.l = 0 ∧ x.r = false
  hy : y.t = 2 ∧ y.l = 1 ∧ y.r = false
theorem AP.start : AP (M0 48) (M0 48) ⟨1, 0, 0, false, 0⟩ ⟨2, 1, 0, false, 0⟩ := ⟨M0_len 48, M0_len 48, rfl, rfl, ⟨rfl, rfl, rfl⟩, ⟨rfl, rfl, rfl⟩⟩
theorem AP.x {M N : MemS} {x y : HandS} (h : AP M N x y) : x = ⟨1, 0, x.s, false, x.x⟩ := by
  obtain ⟨a, b, c, d, e⟩ := x
  obtain ⟨h1, h2, h3⟩ := h.hx
  simp only at h1 h2 h3
  subst h1; subst h2; subst h3; rfl
theorem AP.y {M N : MemS} {x y : HandS} (h : AP M N x y) : y = ⟨2, 1, y.s, false, y.x⟩ := by
  obtain ⟨a, b, c, d, e⟩ := y
  obtain ⟨h1, h2, h3⟩ := h.hy
  simp only at h1 h2 h3
  subst h1; subst h2; subst h3; rfl
theorem take_b {M : MemS} (h : M.L.length = 48) (s : Int) (r : Bool) (x : Int) : tkTake ⟨2, 2, 4, 0, 2⟩ M ⟨2, 1, s, r, x⟩ = if s = 0 then (M.add 11 1, ⟨2, 1, 1, r, M.word 11⟩) else if s = 1 then (M.load 12, if M.word 12 = x then ⟨2, 1, 9, r, x⟩ else ⟨2, 1, 1, r, x⟩) else (M, ⟨2, 1, s, r, x⟩) :=
  tkTake8 h (t := 2) (l := 1) (by omega) (by omega) s r x
theorem take_a {M : MemS} (h : M.L.length = 48) (s : Int) (r : Bool) (x : Int) : tkTake ⟨2, 2, 4, 0, 2⟩ M ⟨1, 0, s, r, x⟩ = if s = 0 then (M.add 5 1, ⟨1, 0, 1, r, M.word 5⟩) else if s = 1 then (M.load 6, if M.word 6 = x then ⟨1, 0, 9, r, x⟩ else ⟨1, 0, 1, r, x⟩) else (M, ⟨1, 0, s, r, x⟩) :=
  tkTake8 h (t := 1) (l := 0) (by omega) (by omega) s r x
theorem AP.takeB {M N : MemS} {x y : HandS} (h : AP M N x y) {M' : MemS} {y' : HandS} (e : tkTake ⟨2, 2, 4, 0, 2⟩ M ⟨2, 1, y.s, false, y.x⟩ = (M', y')) : AP M' N x y' := by
  have hl := h.lM
  rw [take_b h.lM] at e
  by_cases h0 : y.s = 0
  · rw [if_pos h0] at e
    obtain ⟨rfl, rfl⟩ := Prod.mk.inj e
    exact ⟨len_add.trans h.lM, h.lN, by rw [word_add (by omega), if_neg (by decide)]; exact h.n5, by rw [word_add (by omega), if_neg (by decide)]; exact h.n6, h.hx, ⟨rfl, rfl, rfl⟩⟩
  · rw [if_neg h0] at e
    by_cases h1 : y.s = 1
    · rw [if_pos h1] at e
      by_cases h2 : M.word 12 = y.x
      · rw [if_pos h2] at e
        obtain ⟨rfl, rfl⟩ := Prod.mk.inj e
        exact ⟨h.lM, h.lN, h.n5, h.n6, h.hx, ⟨rfl, rfl, rfl⟩⟩
      · rw [if_neg h2] at e
        obtain ⟨rfl, rfl⟩ := Prod.mk.inj e
        exact ⟨h.lM, h.lN, h.n5, h.n6, h.hx, ⟨rfl, rfl, rfl⟩⟩
    · rw [if_neg h1] at e
      obtain ⟨rfl, rfl⟩ := Prod.mk.inj e
      exact ⟨h.lM, h.lN, h.n5, h.n6, h.hx, ⟨rfl, rfl, rfl⟩⟩
theorem AP.dropB {M N : MemS} {x y : HandS} (h : AP M N x y) {M' : MemS} {y' : HandS} {z : Int} (e : tkDrop ⟨2, 2, 4, 0, 2⟩ M ⟨2, 1, 9, false, z⟩ = (M', y')) : AP M' N x y' := by
  have hl := h.lM
  have e0 : tkDrop ⟨2, 2, 4, 0, 2⟩ M ⟨2, 1, 9, false, z⟩ = (M.store 12 (wrap64 (z + 1)), ⟨2, 1, 0, false, 0⟩) := tkDrop8 h.lM (t := 2) (l := 1) (by omega) (by omega) false z
  rw [e0] at e
  obtain ⟨rfl, rfl⟩ := Prod.mk.inj e
  exact ⟨len_store.trans h.lM, h.lN, by rw [word_store (by omega), if_neg (by decide)]; exact h.n5, by rw [word_store (by omega), if_neg (by decide)]; exact h.n6, h.hx, ⟨rfl, rfl, rfl⟩⟩
theorem AP.takeA {M N : MemS} {x y : HandS} (h : AP M N x y) {M' N' : MemS} {x' x2 : HandS} (e : tkTake ⟨2, 2, 4, 0, 2⟩ M ⟨1, 0, x.s, false, x.x⟩ = (M', x')) (e2 : tkTake ⟨2, 2, 4, 0, 2⟩ N ⟨1, 0, x.s, false, x.x⟩ = (N', x2)) : x2 = x' ∧ AP M' N' x' y := by
  have hl := h.lM
  have hl2 := h.lN
  rw [take_a h.lM] at e
  rw [take_a h.lN] at e2
  by_cases h0 : x.s = 0
  · rw [if_pos h0] at e e2
    obtain ⟨rfl, rfl⟩ := Prod.mk.inj e
    obtain ⟨rfl, rfl⟩ := Prod.mk.inj e2
    exact ⟨by rw [h.n5], len_add.trans h.lM, len_add.trans h.lN, by rw [word_add (by omega), word_add (by omega), if_pos rfl, if_pos rfl, h.n5], by rw [word_add (by omega), word_add (by omega), if_neg (by decide), if_neg (by decide)]; exact h.n6, ⟨rfl, rfl, rfl⟩, h.hy⟩
  · rw [if_neg h0] at e e2
    by_cases h1 : x.s = 1
    · rw [if_pos h1] at e e2
      rw [← h.n6] at e2
      by_cases h2 : M.word 6 = x.x
      · rw [if_pos h2] at e e2
        obtain ⟨rfl, rfl⟩ := Prod.mk.inj e
        obtain ⟨rfl, rfl⟩ := Prod.mk.inj e2
        exact ⟨rfl, h.lM, h.lN, h.n5, h.n6, ⟨rfl, rfl, rfl⟩, h.hy⟩
      · rw [if_neg h2] at e e2
        obtain ⟨rfl, rfl⟩ := Prod.mk.inj e
        obtain ⟨rfl, rfl⟩ := Prod.mk.inj e2
        exact ⟨rfl, h.lM, h.lN, h.n5, h.n6, ⟨rfl, rfl, rfl⟩, h.hy⟩
    · rw [if_neg h1] at e e2
      obtain ⟨rfl, rfl⟩ := Prod.mk.inj e
      obtain ⟨rfl, rfl⟩ := Prod.mk.inj e2
      exact ⟨rfl, h.lM, h.lN, h.n5, h.n6, ⟨rfl, rfl, rfl⟩, h.hy⟩
theorem AP.dropA {M N : MemS} {x y : HandS} (h : AP M N x y) {M' N' : MemS} {x' x2 : HandS} {z : Int} (e : tkDrop ⟨2, 2, 4, 0, 2⟩ M ⟨1, 0, 9, false, z⟩ = (M', x')) (e2 : tkDrop ⟨2, 2, 4, 0, 2⟩ N ⟨1, 0, 9, false, z⟩ = (N', x2)) : x2 = x' ∧ AP M' N' x' y := by
  have hl := h.lM
  have hl2 := h.lN
  have e0 : ∀ K : MemS, K.L.length = 48 → tkDrop ⟨2, 2, 4, 0, 2⟩ K ⟨1, 0, 9, false, z⟩ = (K.store 6 (wrap64 (z + 1)), ⟨1, 0, 0, false, 0⟩) := fun K hK => tkDrop8 hK (t := 1) (l := 0) (by omega) (by omega) false z
  rw [e0 M hl] at e
  rw [e0 N hl2] at e2
  obtain ⟨rfl, rfl⟩ := Prod.mk.inj e
  obtain ⟨rfl, rfl⟩ := Prod.mk.inj e2
  exact ⟨rfl, len_store.trans h.lM, len_store.trans h.lN, by rw [word_store (by omega), word_store (by omega), if_neg (by decide), if_neg (by decide)]; exact h.n5, by rw [word_store (by omega), word_store (by omega), if_pos rfl, if_pos rfl], ⟨rfl, rfl, rfl⟩, h.hy⟩
end Go.Proofs.Ytodaiogefgdcpaa
