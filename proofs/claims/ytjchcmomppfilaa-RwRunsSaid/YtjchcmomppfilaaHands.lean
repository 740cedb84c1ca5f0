/- A row of hands in a block: [n]api.Hand. -/
import Derived.Test.YtjchcmomppfilaaBox
namespace Go.Proofs.Ytjchcmomppfilaa
open Go.RowKit
def HandsAt (n : Nat) (w : World) (G : Nat) (f : Nat → HandS) : Prop := ∃ (cs : Array Value) (T : TypeId), w.heap[G]? = some (.cells cs T (0, 0)) ∧ ∀ t, t < n → cs[t * 5]? = some (.int .i64 (f t).t) ∧ cs[t * 5 + 1]? = some (.int .i64 (f t).l) ∧ cs[t * 5 + 2]? = some (.int .i64 (f t).s) ∧ cs[t * 5 + 3]? = some (.bool (f t).r) ∧ cs[t * 5 + 4]? = some (.int .i64 (f t).x)
theorem HandsAt.keep {n : Nat} {S : Nat → Prop} {w w' : World} {G : Nat} {f : Nat → HandS} (h : HandsAt n w G f) (k : Keeps S w w') (hG : ¬ S G) : HandsAt n w' G f := by
  obtain ⟨cs, T, h1, h2⟩ := h
  exact ⟨cs, T, k.blk h1 hG, h2⟩
theorem HandsAt.cell {n : Nat} {w : World} {G : Nat} {f : Nat → HandS} (h : HandsAt n w G f) (t : Nat) (ht : t < n) :
    w.cell? ⟨G, t * 5, none⟩ = some (.int .i64 (f t).t) ∧ w.cell? ⟨G, t * 5 + 1, none⟩ = some (.int .i64 (f t).l) ∧ w.cell? ⟨G, t * 5 + 2, none⟩ = some (.int .i64 (f t).s) ∧ w.cell? ⟨G, t * 5 + 3, none⟩ = some (.bool (f t).r) ∧ w.cell? ⟨G, t * 5 + 4, none⟩ = some (.int .i64 (f t).x) := by
  obtain ⟨cs, T, h1, h2⟩ := h
  obtain ⟨c0, c1, c2, c3, c4⟩ := h2 t ht
  rw [blk_cell h1, blk_cell h1, blk_cell h1, blk_cell h1, blk_cell h1]
  exact ⟨c0, c1, c2, c3, c4⟩
theorem HandsAt.free {n : Nat} {w : World} {G : Nat} {f : Nat → HandS} (h : HandsAt n w G f) (j : Nat) : w.frozen? ⟨G, j, none⟩ = false := by
  obtain ⟨cs, T, h1, h2⟩ := h
  exact blk_free h1 j
theorem HandsAt.lt {n : Nat} {w : World} {G : Nat} {f : Nat → HandS} (h : HandsAt n w G f) : G < w.heap.size := by
  obtain ⟨cs, T, h1, h2⟩ := h
  exact blk_lt h1
/-- one hand laid anew -/
def hput (f : Nat → HandS) (t : Nat) (h : HandS) : Nat → HandS := fun k => if k = t then h else f k
theorem get_set5 {cs : Array Value} {i : Nat} {a b c d e : Value} (hi : i + 4 < cs.size) (j : Nat) :
    (((((cs.setIfInBounds i a).setIfInBounds (i + 1) b).setIfInBounds (i + 2) c).setIfInBounds (i + 3) d).setIfInBounds (i + 4) e)[j]? = if j = i then some a else if j = i + 1 then some b else if j = i + 2 then some c else if j = i + 3 then some d else if j = i + 4 then some e else cs[j]? := by
  simp only [Array.getElem?_setIfInBounds, Array.size_setIfInBounds]
  repeat' split
  all_goals first | rfl | omega
theorem HandsAt.set {n : Nat} {w : World} {G : Nat} {f : Nat → HandS} (h : HandsAt n w G f) (t : Nat) (ht : t < n) (a b c : Int) (r : Bool) (x : Int) :
    HandsAt n (((((w.setCell ⟨G, t * 5, none⟩ (.int .i64 a)).setCell ⟨G, t * 5 + 1, none⟩ (.int .i64 b)).setCell ⟨G, t * 5 + 2, none⟩ (.int .i64 c)).setCell ⟨G, t * 5 + 3, none⟩ (.bool r)).setCell ⟨G, t * 5 + 4, none⟩ (.int .i64 x)) G (hput f t ⟨a, b, c, r, x⟩) := by
  obtain ⟨cs, T, h1, h2⟩ := h
  refine ⟨_, T, blk_set (blk_set (blk_set (blk_set (blk_set h1 _ _) _ _) _ _) _ _) _ _, fun j hj => ?_⟩
  have hsz : t * 5 + 4 < cs.size := (Array.getElem?_eq_some_iff.1 (h2 t ht).2.2.2.2).1
  simp only [get_set5 hsz]
  unfold hput
  by_cases e : j = t
  · subst e
    simp
  · rw [if_neg e, if_neg (by omega), if_neg (by omega), if_neg (by omega), if_neg (by omega), if_neg (by omega), if_neg (by omega), if_neg (by omega), if_neg (by omega), if_neg (by omega), if_neg (by omega), if_neg (by omega), if_neg (by omega), if_neg (by omega), if_neg (by omega), if_neg (by omega), if_neg (by omega), if_neg (by omega), if_neg (by omega), if_neg (by omega), if_neg (by omega), if_neg (by omega), if_neg (by omega), if_neg (by omega), if_neg (by omega), if_neg (by omega)]
    exact h2 j hj
theorem HandsAt.congr {n : Nat} {w : World} {G : Nat} {f g : Nat → HandS} (h : HandsAt n w G f) (e : ∀ t, t < n → f t = g t) : HandsAt n w G g := by
  obtain ⟨cs, T, h1, h2⟩ := h
  exact ⟨cs, T, h1, fun t ht => by rw [← e t ht]; exact h2 t ht⟩
/-- the same five cells, laid in blocks of their own: a new row of four, all naught -/
def hand0 : HandS := ⟨0, 0, 0, false, 0⟩
/-- blocks that lie behind two memories -/
structure Apart (W : World) (G a c : Nat) (v u : Value) : Prop where
  w : W.heap.size ≤ G
  a : a < G
  c : c < G
  v : ∀ g, v.ownBlock = some g → g < G
  u : ∀ g, u.ownBlock = some g → g < G
theorem Apart.na {W : World} {G a c : Nat} {v u : Value} (h : Apart W G a c v u) {g : Nat} (hg : G ≤ g) : ¬ own2m a v g := not_own (fun e => by have := h.a; omega) (fun e => by have := h.v g e; omega)
theorem Apart.nc {W : World} {G a c : Nat} {v u : Value} (h : Apart W G a c v u) {g : Nat} (hg : G ≤ g) : ¬ own2m c u g := not_own (fun e => by have := h.c; omega) (fun e => by have := h.u g e; omega)
theorem TwoT.setCell {T U : TypeId} {w wr : World} {a c G : Nat} {v u : Value} {M N : MemS} (h : TwoT T U w wr a c v u M N) (hA : Apart w G a c v u) (p : Addr) (hp : G ≤ p.block) (x : Value) : TwoT T U w (wr.setCell p x) a c v u M N :=
  ⟨⟨h.s.m.set hA.a hA.v p hp x, h.s.na, h.s.nv, h.s.kp.setCell (fun hlt => by have := hA.w; omega) x⟩, ⟨h.r.m.set hA.c hA.u p hp x, h.r.na, h.r.nv, h.r.kp.setCell (fun hlt => by have := hA.w; omega) x⟩, h.ac, h.vc, h.ua, h.vu⟩
theorem TwoT.apart {T U : TypeId} {w wr : World} {a c : Nat} {v u : Value} {M N : MemS} (h : TwoT T U w wr a c v u M N) : Apart w wr.heap.size a c v u :=
  ⟨h.s.kp.size, blk_lt h.s.m.hd, blk_lt h.r.m.hd, fun _ e => h.s.m.own_lt e, fun _ e => h.r.m.own_lt e⟩
theorem HandsAt.out {n : Nat} {w : World} {G : Nat} {f : Nat → HandS} (h : HandsAt n w G f) {p : Addr} (hp : G ≠ p.block) (x : Value) : HandsAt n (w.setCell p x) G f :=
  h.keep ((Keeps.refl (just p.block) w).setCell (fun _ => rfl) x) hp
/-- five cells of a hand -/
def setH (w : World) (G t : Nat) (h : HandS) : World := ((((w.setCell ⟨G, t * 5, none⟩ (.int .i64 h.t)).setCell ⟨G, t * 5 + 1, none⟩ (.int .i64 h.l)).setCell ⟨G, t * 5 + 2, none⟩ (.int .i64 h.s)).setCell ⟨G, t * 5 + 3, none⟩ (.bool h.r)).setCell ⟨G, t * 5 + 4, none⟩ (.int .i64 h.x)
theorem HandsAt.setH {n : Nat} {w : World} {G : Nat} {f : Nat → HandS} (h : HandsAt n w G f) (t : Nat) (ht : t < n) (x : HandS) : HandsAt n (setH w G t x) G (hput f t x) := h.set t ht x.t x.l x.s x.r x.x
theorem HandsAt.outH {n : Nat} {w : World} {G G' : Nat} {f : Nat → HandS} (h : HandsAt n w G f) (hg : G ≠ G') (t : Nat) (x : HandS) : HandsAt n (Proofs.Ytjchcmomppfilaa.setH w G' t x) G f :=
  ((((h.out (p := ⟨G', _, none⟩) hg _).out (p := ⟨G', _, none⟩) hg _).out (p := ⟨G', _, none⟩) hg _).out (p := ⟨G', _, none⟩) hg _).out (p := ⟨G', _, none⟩) hg _
theorem TwoT.setH {T U : TypeId} {w wr : World} {a c G g : Nat} {v u : Value} {M N : MemS} (h : TwoT T U w wr a c v u M N) (hA : Apart w G a c v u) (hg : G ≤ g) (t : Nat) (x : HandS) : TwoT T U w (Proofs.Ytjchcmomppfilaa.setH wr g t x) a c v u M N :=
  ((((h.setCell hA ⟨g, _, none⟩ hg _).setCell hA ⟨g, _, none⟩ hg _).setCell hA ⟨g, _, none⟩ hg _).setCell hA ⟨g, _, none⟩ hg _).setCell hA ⟨g, _, none⟩ hg _
theorem Keeps.setH {S : Nat → Prop} {w w' : World} (h : Keeps S w w') {g : Nat} (hg : w.heap.size ≤ g) (t : Nat) (x : HandS) : Keeps S w (Proofs.Ytjchcmomppfilaa.setH w' g t x) :=
  ((((h.setCell (p := ⟨g, _, none⟩) (fun hlt => by have h' : g < w.heap.size := hlt; omega) _).setCell (p := ⟨g, _, none⟩) (fun hlt => by have h' : g < w.heap.size := hlt; omega) _).setCell (p := ⟨g, _, none⟩) (fun hlt => by have h' : g < w.heap.size := hlt; omega) _).setCell (p := ⟨g, _, none⟩) (fun hlt => by have h' : g < w.heap.size := hlt; omega) _).setCell (p := ⟨g, _, none⟩) (fun hlt => by have h' : g < w.heap.size := hlt; omega) _
/-- a run: two memories that are alike, two rows of hands that are alike -/
structure RunS (W : World) (w : World) (a c : Nat) (v u : Value) (M : MemS) (G : Nat) (f : Nat → HandS) : Prop where
  t : TwoR W w a c v u M M
  x : HandsAt 4 w G f
  y : HandsAt 4 w (G + 1) f
theorem RunS.keep {W w w' : World} {a c : Nat} {v u : Value} {M : MemS} {G : Nat} {f : Nat → HandS} (h : RunS W w a c v u M G f) (k : Keeps NoS w w') : RunS W w' a c v u M G f :=
  ⟨h.t.keep k, h.x.keep k (fun f => f), h.y.keep k (fun f => f)⟩
theorem RunS.put {W w : World} {a c : Nat} {v u : Value} {M : MemS} {G : Nat} {f : Nat → HandS} (h : RunS W w a c v u M G f) (hA : Apart W G a c v u) (t : Nat) (ht : t < 4) (x : HandS) : RunS W (setH (setH w G t x) (G + 1) t x) a c v u M G (hput f t x) :=
  ⟨(h.t.setH hA (Nat.le_refl _) t x).setH hA (by omega) t x, (h.x.setH t ht x).outH (by omega) t x, (h.y.outH (by omega) t x).setH t ht x⟩
theorem handsAt_new (w : World) (T : TypeId) : HandsAt 4 (w.alloc (.cells #[.int .i64 0, .int .i64 0, .int .i64 0, .bool false, .int .i64 0, .int .i64 0, .int .i64 0, .int .i64 0, .bool false, .int .i64 0, .int .i64 0, .int .i64 0, .int .i64 0, .bool false, .int .i64 0, .int .i64 0, .int .i64 0, .int .i64 0, .bool false, .int .i64 0] T)) w.heap.size (fun _ => hand0) := by
  refine ⟨_, T, heap_alloc_new _ _, fun t ht => ?_⟩
  match t, ht with
  | 0, _ => exact ⟨rfl, rfl, rfl, rfl, rfl⟩
  | 1, _ => exact ⟨rfl, rfl, rfl, rfl, rfl⟩
  | 2, _ => exact ⟨rfl, rfl, rfl, rfl, rfl⟩
  | 3, _ => exact ⟨rfl, rfl, rfl, rfl, rfl⟩
theorem runS_new {W w2 : World} {a c : Nat} {v u : Value} {M : MemS} {G : Nat} (hG : w2.heap.size = G) (hT : TwoR W w2 a c v u M M) :
    ∃ w3, (w2.alloc (.cells #[.int .i64 0, .int .i64 0, .int .i64 0, .bool false, .int .i64 0, .int .i64 0, .int .i64 0, .int .i64 0, .bool false, .int .i64 0, .int .i64 0, .int .i64 0, .int .i64 0, .bool false, .int .i64 0, .int .i64 0, .int .i64 0, .int .i64 0, .bool false, .int .i64 0] 38)).alloc (.cells #[.int .i64 0, .int .i64 0, .int .i64 0, .bool false, .int .i64 0, .int .i64 0, .int .i64 0, .int .i64 0, .bool false, .int .i64 0, .int .i64 0, .int .i64 0, .int .i64 0, .bool false, .int .i64 0, .int .i64 0, .int .i64 0, .int .i64 0, .bool false, .int .i64 0] 38) = w3 ∧ RunS W w3 a c v u M G (fun _ => hand0) ∧ Apart W G a c v u ∧ G + 1 < w3.heap.size := by
  subst hG
  refine ⟨_, rfl, ⟨hT.keep (((Keeps.refl NoS w2).alloc _).alloc _), ?_, ?_⟩, hT.apart, by simp⟩
  · exact (handsAt_new w2 38).keep ((Keeps.refl NoS _).alloc (.cells #[.int .i64 0, .int .i64 0, .int .i64 0, .bool false, .int .i64 0, .int .i64 0, .int .i64 0, .int .i64 0, .bool false, .int .i64 0, .int .i64 0, .int .i64 0, .int .i64 0, .bool false, .int .i64 0, .int .i64 0, .int .i64 0, .int .i64 0, .bool false, .int .i64 0] 38)) (fun f => f)
  · have hy := handsAt_new (w2.alloc (.cells #[.int .i64 0, .int .i64 0, .int .i64 0, .bool false, .int .i64 0, .int .i64 0, .int .i64 0, .int .i64 0, .bool false, .int .i64 0, .int .i64 0, .int .i64 0, .int .i64 0, .bool false, .int .i64 0, .int .i64 0, .int .i64 0, .int .i64 0, .bool false, .int .i64 0] 38)) 38
    simpa using hy
theorem RunS.congr {W w : World} {a c : Nat} {v u : Value} {M : MemS} {G : Nat} {f g : Nat → HandS} (h : RunS W w a c v u M G f) (e : ∀ t, t < 4 → f t = g t) : RunS W w a c v u M G g :=
  ⟨h.t, h.x.congr e, h.y.congr e⟩
set_option maxHeartbeats 400000 in
set_option maxRecDepth 100000 in
theorem like_keep (w wr : World) (a c : Nat) (v u : Value) (M : MemS) (hT : TwoR w wr a c v u M M) :
    Calls Try.prog 36 #[.pointer (some ⟨a, 0, none⟩), .pointer (some ⟨c, 0, none⟩)] wr fun e w' => e = .returned (.bool true) ∧ TwoR w w' a c v u M M ∧ Keeps NoS wr w' := by
  have hc := hT.r.m.allCells
  have HT := Lib.hid hT
  clear hT
  go_enter Try.func36, Try.ntmps36
  go_wp2_with fail
  go_region_held3 (fun w' => w'.cell? ⟨c, 1, none⟩ = some (.int .i64 M.st) ∧ w'.cell? ⟨c, 2, none⟩ = some (.int .i64 M.last.k) ∧ w'.cell? ⟨c, 3, none⟩ = some (.int .i64 M.last.at_) ∧ w'.cell? ⟨c, 4, none⟩ = some (.int .i64 M.last.val) ∧ w'.cell? ⟨c, 5, none⟩ = some (.int .i64 M.last.saw) ∧ w'.cell? ⟨c, 6, none⟩ = some (.bool M.last.done)) (first | exact hc | exact hc2) (first
    | (go_at_call 48; refine (steps_any a v M _ (HT.out.keep ((Keeps.refl NoS _).drew)).s.m).mono ?_; rintro e w2 ⟨rfl, rfl⟩)
    | (go_at_call 19; refine (last_any a v M _ (HT.out.keep ((Keeps.refl NoS _).drew)).s.m).mono ?_; rintro e w3 ⟨rfl, hk3⟩; have hT3 := (HT.out.keep ((Keeps.refl NoS _).drew)).keep hk3; have hc2 := hT3.r.m.allCells))
  go_wp2_with fail
  go_ret
  exact ⟨rfl, hT3, ((Keeps.refl NoS wr).drew).trans hk3⟩
end Go.Proofs.Ytjchcmomppfilaa
