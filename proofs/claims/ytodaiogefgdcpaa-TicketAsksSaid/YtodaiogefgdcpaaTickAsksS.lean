/- What TicketAsks has at hand. -/
import Derived.Test.YtodaiogefgdcpaaOrderS
import Derived.Test.YtodaiogefgdcpaaMemSame
import Derived.Test.YtodaiogefgdcpaaMemAll
import Derived.BigRegion
namespace Go.Proofs.Ytodaiogefgdcpaa
open Go.RowKit
theorem list3 {L : List Int} (h : L.length = 3) : ∃ a b c, L = [a, b, c] := by
  match L, h with
  | [a, b, c], _ => exact ⟨a, b, c, rfl⟩
theorem TwoT.lift {T U : TypeId} {w W wr : World} {a c : Nat} {v u : Value} {M N : MemS} (h : TwoT T U W wr a c v u M N) (k : Keeps NoS w W) : TwoT T U w wr a c v u M N :=
  ⟨⟨h.s.m, Nat.le_trans k.size h.s.na, fun g e => Nat.le_trans k.size (h.s.nv g e), k.trans h.s.kp⟩, ⟨h.r.m, Nat.le_trans k.size h.r.na, fun g e => Nat.le_trans k.size (h.r.nv g e), k.trans h.r.kp⟩, h.ac, h.vc, h.ua, h.vu⟩
/-- what TicketAsks has at hand: two memories, the map, the words, a hand -/
structure TkS (w wr : World) (B H Wb a c : Nat) (v u : Value) (M N : MemS) (w0 w1 w2 t l s : Int) (r : Bool) (x : Int) : Prop where
  tw : TwoR w wr a c v u M N
  mp : MapAt wr B 2 2 4 0 2
  wd : wr.heap[Wb]? = some (.cells #[.int .i64 w0, .int .i64 w1, .int .i64 w2] 41 (0, 0))
  hd : HandAt wr 32 H t l s r x
  len : M.L.length = 48
  lenN : N.L.length = 48
  ap : ∀ g, g = B ∨ g = H ∨ g = Wb → ¬ own2m a v g ∧ ¬ own2m c u g
  hb : B ≠ H
  hb2 : Wb ≠ H
  hw : w.heap.size ≤ H
section
variable {w wr w' : World} {B H Wb a c : Nat} {v u : Value} {M N M' : MemS} {w0 w1 w2 t l s : Int} {r : Bool} {x : Int}
theorem TkS.no (h : TkS w wr B H Wb a c v u M N w0 w1 w2 t l s r x) (k : Keeps NoS wr w') : TkS w w' B H Wb a c v u M N w0 w1 w2 t l s r x :=
  ⟨h.tw.keep k, h.mp.keep k (fun f => f), k.blk h.wd (fun f => f), h.hd.keep k (fun f => f), h.len, h.lenN, h.ap, h.hb, h.hb2, h.hw⟩
theorem TkS.turnS (h : TkS w wr B H Wb a c v u M N w0 w1 w2 t l s r x) (hm : MemAt w' a v M') (k : Keeps (own2m a v) wr w') (hl : M'.L.length = 48) : TkS w w' B H Wb a c v u M' N w0 w1 w2 t l s r x :=
  ⟨h.tw.turnS hm k, h.mp.keep k (h.ap B (.inl rfl)).1, k.blk h.wd (h.ap Wb (.inr (.inr rfl))).1, h.hd.keep k (h.ap H (.inr (.inl rfl))).1, hl, h.lenN, h.ap, h.hb, h.hb2, h.hw⟩
theorem TkS.turnR (h : TkS w wr B H Wb a c v u M N w0 w1 w2 t l s r x) (hm : RefAt w' c u M') (k : Keeps (own2m c u) wr w') (hl : M'.L.length = 48) : TkS w w' B H Wb a c v u M M' w0 w1 w2 t l s r x :=
  ⟨h.tw.turnR hm k, h.mp.keep k (h.ap B (.inl rfl)).2, k.blk h.wd (h.ap Wb (.inr (.inr rfl))).2, h.hd.keep k (h.ap H (.inr (.inl rfl))).2, h.len, hl, h.ap, h.hb, h.hb2, h.hw⟩
theorem two_far {g : Nat} (h : TwoR w wr a c v u M N) (na : ¬ own2m a v g) (nc : ¬ own2m c u g) (hg : w.heap.size ≤ g) (k : Keeps (just g) wr w') : TwoR w w' a c v u M N :=
  ⟨⟨h.s.m.keep k (fun e => na (.inl (by have e' : a = g := e; exact e'.symm))) (fun i hi e => na (.inr (by have e' : i = g := e; rw [← e']; exact hi))), h.s.na, h.s.nv, h.s.kp.trans' k (fun i hi e => by have e' : i = g := e; omega)⟩,
    ⟨h.r.m.keep k (fun e => nc (.inl (by have e' : c = g := e; exact e'.symm))) (fun i hi e => nc (.inr (by have e' : i = g := e; rw [← e']; exact hi))), h.r.na, h.r.nv, h.s.kp.trans' k (fun i hi e => by have e' : i = g := e; omega)⟩, h.ac, h.vc, h.ua, h.vu⟩
/-- the hand's own block turns -/
theorem TkS.own {t' l' s' : Int} {r' : Bool} {x' : Int} (h : TkS w wr B H Wb a c v u M N w0 w1 w2 t l s r x) (k : Keeps (just H) wr w') (hb : HandAt w' 32 H t' l' s' r' x') : TkS w w' B H Wb a c v u M N w0 w1 w2 t' l' s' r' x' :=
  ⟨two_far h.tw (h.ap H (.inr (.inl rfl))).1 (h.ap H (.inr (.inl rfl))).2 h.hw k, h.mp.keep k h.hb, k.blk h.wd h.hb2, hb, h.len, h.lenN, h.ap, h.hb, h.hb2, h.hw⟩
/-- a block apart -/
structure Fr (w : World) (B H Wb a c : Nat) (v u : Value) (g : Nat) : Prop where
  lo : w.heap.size ≤ g
  na : ¬ own2m a v g
  nc : ¬ own2m c u g
  gB : B ≠ g
  gH : H ≠ g
  gW : Wb ≠ g
theorem TkS.fresh (h : TkS w wr B H Wb a c v u M N w0 w1 w2 t l s r x) : Fr w B H Wb a c v u wr.heap.size :=
  ⟨h.tw.s.kp.size, not_own (fun e => by have := blk_lt h.tw.s.m.hd; omega) (fun e => by have := h.tw.s.m.own_lt e; omega), not_own (fun e => by have := blk_lt h.tw.r.m.hd; omega) (fun e => by have := h.tw.r.m.own_lt e; omega),
    fun e => by
      have h0 := h.mp.1
      have : B < wr.heap.size := World.block_lt_of_cell? wr ⟨B, 0, none⟩ h0
      omega,
    fun e => by have := blk_lt h.hd; omega, fun e => by have := blk_lt h.wd; omega⟩
theorem TkS.far {g : Nat} (h : TkS w wr B H Wb a c v u M N w0 w1 w2 t l s r x) (f : Fr w B H Wb a c v u g) (k : Keeps (just g) wr w') : TkS w w' B H Wb a c v u M N w0 w1 w2 t l s r x :=
  ⟨two_far h.tw f.na f.nc f.lo k, h.mp.keep k f.gB, k.blk h.wd f.gW, h.hd.keep k f.gH, h.len, h.lenN, h.ap, h.hb, h.hb2, h.hw⟩
theorem TkS.cells (h : TkS w wr B H Wb a c v u M N w0 w1 w2 t l s r x) : (wr.cell? ⟨B, 0, none⟩ = some (.int .i64 2) ∧ wr.cell? ⟨B, 1, none⟩ = some (.int .i64 2) ∧ wr.cell? ⟨B, 2, none⟩ = some (.int .i64 4) ∧ wr.cell? ⟨B, 3, none⟩ = some (.int .i64 0) ∧ wr.cell? ⟨B, 4, none⟩ = some (.int .i64 2)) ∧ (wr.cell? ⟨H, 0, none⟩ = some (.int .i64 t) ∧ wr.cell? ⟨H, 1, none⟩ = some (.int .i64 l) ∧ wr.cell? ⟨H, 2, none⟩ = some (.int .i64 s) ∧ wr.cell? ⟨H, 3, none⟩ = some (.bool r) ∧ wr.cell? ⟨H, 4, none⟩ = some (.int .i64 x)) := by
  obtain ⟨c0, c1, c2, c3, c4, _⟩ := h.hd.cells
  exact ⟨h.mp, c0, c1, c2, c3, c4⟩
theorem TkS.word (h : TkS w wr B H Wb a c v u M N w0 w1 w2 t l s r x) {k : Nat} (hk : k < 3) : ∃ z : Int, ∀ w', Keeps NoS wr w' → w'.cell? ⟨Wb, k, none⟩ = some (.int .i64 z) := by
  have h1 : ∀ w', Keeps NoS wr w' → w'.cell? ⟨Wb, k, none⟩ = (#[Value.int .i64 w0, .int .i64 w1, .int .i64 w2] : Array Value)[k]? := fun w' kk => blk_cell (kk.blk h.wd (fun f => f)) k
  match k, hk with
  | 0, _ => exact ⟨w0, fun w' kk => (h1 w' kk).trans rfl⟩
  | 1, _ => exact ⟨w1, fun w' kk => (h1 w' kk).trans rfl⟩
  | 2, _ => exact ⟨w2, fun w' kk => (h1 w' kk).trans rfl⟩
/-- a hand laid anew -/
theorem HandAt.set5 {T : TypeId} {g : Nat} {t' l' s' : Int} {r' : Bool} {x' : Int} (h : HandAt wr T g t l s r x) : HandAt (((((wr.setCell ⟨g, 0, none⟩ (.int .i64 t')).setCell ⟨g, 1, none⟩ (.int .i64 l')).setCell ⟨g, 2, none⟩ (.int .i64 s')).setCell ⟨g, 3, none⟩ (.bool r')).setCell ⟨g, 4, none⟩ (.int .i64 x')) T g t' l' s' r' x' :=
  blk_set (blk_set (blk_set (blk_set (blk_set h 0 _) 1 _) 2 _) 3 _) 4 _
theorem keeps5 (g : Nat) (t' l' s' : Int) (r' : Bool) (x' : Int) : Keeps (just g) wr (((((wr.setCell ⟨g, 0, none⟩ (.int .i64 t')).setCell ⟨g, 1, none⟩ (.int .i64 l')).setCell ⟨g, 2, none⟩ (.int .i64 s')).setCell ⟨g, 3, none⟩ (.bool r')).setCell ⟨g, 4, none⟩ (.int .i64 x')) :=
  (((((Keeps.refl (just g) wr).setCell (p := ⟨g, 0, none⟩) (fun _ => rfl) _).setCell (p := ⟨g, 1, none⟩) (fun _ => rfl) _).setCell (p := ⟨g, 2, none⟩) (fun _ => rfl) _).setCell (p := ⟨g, 3, none⟩) (fun _ => rfl) _).setCell (p := ⟨g, 4, none⟩) (fun _ => rfl) _
/-- behind: two hands more -/
structure TkT (w wr : World) (B H Wb a c : Nat) (v u : Value) (M N : MemS) (w0 w1 w2 t l s : Int) (r : Bool) (x : Int) (g1 g2 : Nat) (t' l' s' : Int) (r' : Bool) (x' : Int) : Prop where
  s : TkS w wr B H Wb a c v u M N w0 w1 w2 t l s r x
  p1 : HandAt wr 32 g1 t' l' s' r' x'
  p2 : HandAt wr 32 g2 t' l' s' r' x'
  f1 : Fr w B H Wb a c v u g1
  f2 : Fr w B H Wb a c v u g2
  ne : g1 ≠ g2
theorem TkT.no {g1 g2 : Nat} {t' l' s' : Int} {r' : Bool} {x' : Int} (h : TkT w wr B H Wb a c v u M N w0 w1 w2 t l s r x g1 g2 t' l' s' r' x') (k : Keeps NoS wr w') : TkT w w' B H Wb a c v u M N w0 w1 w2 t l s r x g1 g2 t' l' s' r' x' :=
  ⟨h.s.no k, h.p1.keep k (fun f => f), h.p2.keep k (fun f => f), h.f1, h.f2, h.ne⟩
end
theorem TkT.cells {w wr : World} {B H Wb a c : Nat} {v u : Value} {M N : MemS} {w0 w1 w2 t l s : Int} {r : Bool} {x : Int} {g1 g2 : Nat} {t' l' s' : Int} {r' : Bool} {x' : Int} (h : TkT w wr B H Wb a c v u M N w0 w1 w2 t l s r x g1 g2 t' l' s' r' x') : (wr.cell? ⟨B, 0, none⟩ = some (.int .i64 2) ∧ wr.cell? ⟨B, 1, none⟩ = some (.int .i64 2) ∧ wr.cell? ⟨B, 2, none⟩ = some (.int .i64 4) ∧ wr.cell? ⟨B, 3, none⟩ = some (.int .i64 0) ∧ wr.cell? ⟨B, 4, none⟩ = some (.int .i64 2)) ∧ (wr.cell? ⟨H, 0, none⟩ = some (.int .i64 t) ∧ wr.cell? ⟨H, 1, none⟩ = some (.int .i64 l) ∧ wr.cell? ⟨H, 2, none⟩ = some (.int .i64 s) ∧ wr.cell? ⟨H, 3, none⟩ = some (.bool r) ∧ wr.cell? ⟨H, 4, none⟩ = some (.int .i64 x)) ∧ (wr.cell? ⟨g1, 0, none⟩ = some (.int .i64 t') ∧ wr.cell? ⟨g1, 1, none⟩ = some (.int .i64 l') ∧ wr.cell? ⟨g1, 2, none⟩ = some (.int .i64 s') ∧ wr.cell? ⟨g1, 3, none⟩ = some (.bool r') ∧ wr.cell? ⟨g1, 4, none⟩ = some (.int .i64 x')) ∧ (wr.cell? ⟨g2, 0, none⟩ = some (.int .i64 t') ∧ wr.cell? ⟨g2, 1, none⟩ = some (.int .i64 l') ∧ wr.cell? ⟨g2, 2, none⟩ = some (.int .i64 s') ∧ wr.cell? ⟨g2, 3, none⟩ = some (.bool r') ∧ wr.cell? ⟨g2, 4, none⟩ = some (.int .i64 x')) := by
  obtain ⟨c0, c1, c2, c3, c4, _⟩ := h.s.hd.cells
  obtain ⟨y0, y1, y2, y3, y4, _⟩ := h.p1.cells
  obtain ⟨z0, z1, z2, z3, z4, _⟩ := h.p2.cells
  exact ⟨h.s.mp, ⟨c0, c1, c2, c3, c4⟩, ⟨y0, y1, y2, y3, y4⟩, z0, z1, z2, z3, z4⟩
/-- both memories made anew -/
theorem TkT.renew {w wr w' : World} {B H Wb a c a2 c2 : Nat} {v u v2 u2 : Value} {M N M2 N2 : MemS} {w0 w1 w2 t l s : Int} {r : Bool} {x : Int} {g1 g2 : Nat} {t' l' s' : Int} {r' : Bool} {x' : Int} (h : TkT w wr B H Wb a c v u M N w0 w1 w2 t l s r x g1 g2 t' l' s' r' x') (k : Keeps NoS wr w') (hT : TwoR w w' a2 c2 v2 u2 M2 N2)
    (ha : wr.heap.size ≤ a2) (hv : ∀ g, v2.ownBlock = some g → wr.heap.size ≤ g) (hc : wr.heap.size ≤ c2) (hu : ∀ g, u2.ownBlock = some g → wr.heap.size ≤ g) (l1 : M2.L.length = 48) (l2 : N2.L.length = 48) : TkT w w' B H Wb a2 c2 v2 u2 M2 N2 w0 w1 w2 t l s r x g1 g2 t' l' s' r' x' := by
  have hlt : ∀ g, g < wr.heap.size → ¬ own2m a2 v2 g ∧ ¬ own2m c2 u2 g := fun g hg =>
    ⟨not_own (by omega) (fun e => by have := hv g e; omega), not_own (by omega) (fun e => by have := hu g e; omega)⟩
  have bB : B < wr.heap.size := World.block_lt_of_cell? wr ⟨B, 0, none⟩ h.s.mp.1
  have bH := blk_lt h.s.hd
  have bW := blk_lt h.s.wd
  have b1 := blk_lt h.p1
  have b2 := blk_lt h.p2
  refine ⟨⟨hT, h.s.mp.keep k (fun f => f), k.blk h.s.wd (fun f => f), h.s.hd.keep k (fun f => f), l1, l2, fun g hg => ?_, h.s.hb, h.s.hb2, h.s.hw⟩, h.p1.keep k (fun f => f), h.p2.keep k (fun f => f), ⟨h.f1.lo, (hlt g1 b1).1, (hlt g1 b1).2, h.f1.gB, h.f1.gH, h.f1.gW⟩, ⟨h.f2.lo, (hlt g2 b2).1, (hlt g2 b2).2, h.f2.gB, h.f2.gH, h.f2.gW⟩, h.ne⟩
  rcases hg with rfl | rfl | rfl
  · exact hlt _ bB
  · exact hlt _ bH
  · exact hlt _ bW
theorem tkTake_len (m : MapS) (M : MemS) (h : HandS) : (tkTake m M h).1.L.length = M.L.length := by
  unfold tkTake
  split
  · split
    · exact addI_len _ _ _
    · split
      · show (M.loadI _).L.length = _; rw [loadI_L]
      · rfl
  · rfl
theorem tkDrop_len (m : MapS) (M : MemS) (h : HandS) : (tkDrop m M h).1.L.length = M.L.length := by
  unfold tkDrop
  split
  · exact storeI_len _ _ _
  · rfl
theorem storeI_st (M : MemS) (i x : Int) (k : Int) (h0 : 0 ≤ M.st) (h1 : M.st ≤ k) (hk : k ≤ 100) : 0 ≤ (M.storeI i x).st ∧ (M.storeI i x).st ≤ k + 1 := by
  unfold MemS.storeI
  split
  · show 0 ≤ wrap64 (M.st + 1) ∧ wrap64 (M.st + 1) ≤ k + 1
    rw [wrap64_id (by omega) (by omega)]; omega
  · omega
theorem tkTake_st (m : MapS) (M : MemS) (h : HandS) (h0 : 0 ≤ M.st) (h1 : M.st ≤ 100) : (tkTake m M h).1.st = M.st ∨ (tkTake m M h).1.st = M.st + 1 := by
  have hw : wrap64 (M.st + 1) = M.st + 1 := wrap64_id (by omega) (by omega)
  unfold tkTake
  split
  · split
    · show (M.addI _ _).st = _ ∨ (M.addI _ _).st = _
      unfold MemS.addI; split
      · exact .inr hw
      · exact .inl rfl
    · split
      · show (M.loadI _).st = _ ∨ (M.loadI _).st = _
        unfold MemS.loadI; split
        · exact .inr hw
        · exact .inl rfl
      · exact .inl rfl
  · exact .inl rfl
theorem tkDrop_st (m : MapS) (M : MemS) (h : HandS) (h0 : M.st = 0) : (tkDrop m M h).1.st = 0 ∨ (tkDrop m M h).1.st = 1 := by
  unfold tkDrop
  split
  · show (M.storeI _ _).st = _ ∨ (M.storeI _ _).st = _
    unfold MemS.storeI; split
    · exact .inr (by show wrap64 (M.st + 1) = 1; rw [h0, wrap64_id (by omega) (by omega)]; rfl)
    · exact .inl h0
  · exact .inl h0
theorem idle_eq {M : MemS} (h : M.L.length = 48) (l : Int) : idleF ⟨2, 2, 4, 0, 2⟩ M l = idleB ⟨2, 2, 4, 0, 2⟩ M l := by
  unfold idleF idleB
  rw [h, m8_size]; rfl
set_option maxHeartbeats 2000000 in
set_option maxRecDepth 100000 in
theorem takenil_any (ms ml mt mc md t l s : Int) (r : Bool) (x : Int) (hs : sizeP ⟨ms, ml, mt, mc, md⟩ = 48) (w : World) : Calls Try.prog 18 #[.agg #[.int .i64 ms, .int .i64 ml, .int .i64 mt, .int .i64 mc, .int .i64 md], .pointer none, .agg #[.int .i64 t, .int .i64 l, .int .i64 s, .bool r, .int .i64 x]] w fun e w' => e = .returned (.agg #[.int .i64 t, .int .i64 l, .int .i64 s, .bool r, .int .i64 x]) ∧ Keeps NoS w w' := by
  have hbx := bx_new w ms ml mt mc md t l s r x 25
  have hk : Keeps NoS w (((w.alloc (.cells #[.int .i64 ms, .int .i64 ml, .int .i64 mt, .int .i64 mc, .int .i64 md] 25)).alloc (.cells #[.int .i64 t, .int .i64 l, .int .i64 s, .bool r, .int .i64 x] 32)).alloc (.cells #[.int .i64 0, .int .i64 0, .int .i64 0, .bool false, .int .i64 0] 32)) := (((Keeps.refl NoS w).alloc _).alloc _).alloc _
  obtain ⟨B, hB⟩ : ∃ B, w.heap.size = B := ⟨_, rfl⟩
  rw [hB] at hbx
  have HB := Lib.hid hB; have HK := Lib.hid hk; have HBX := Lib.hid hbx; have HS := Lib.hid hs
  clear hbx hk hB hs
  go_enter Try.func18, Try.ntmps18
  go_wp2_with fail
  refine (fits_nil ms ml mt mc md t l s r x HS.out _).mono ?_
  rintro e w1 ⟨rfl, hk1⟩
  obtain ⟨⟨m0, m1, m2, m3, m4⟩, ⟨c0, c1, c2, c3, c4⟩, ⟨r0, r1, r2, r3, r4⟩, ⟨f0, f1, f2, f3, f4⟩, ⟨g0, g1, g2, g3, g4⟩, z1, z2⟩ := (HBX.out.no hk1).facts
  rw [HB.out]
  go_wp2_with fail
  refine bodyPost_ret (v := .agg #[.int .i64 t, .int .i64 l, .int .i64 s, .bool r, .int .i64 x]) (by simp [results, Try.results18, go_sem, *]) rfl ⟨rfl, ?_⟩
  repeat (first | (with_reducible exact ((HK.out.trans hk1).no)) | refine kset HB.out ?_ _ (by show B ≤ _; dsimp only; omega) _)
theorem HandAt.set0 {w : World} {T : TypeId} {H : Nat} {t' t l s : Int} {r : Bool} {x : Int} (h : HandAt w T H t' l s r x) : HandAt (w.setCell ⟨H, 0, none⟩ (.int .i64 t)) T H t l s r x := blk_set h 0 (.int .i64 t)
theorem HandAt.set1 {w : World} {T : TypeId} {H : Nat} {t l' l s : Int} {r : Bool} {x : Int} (h : HandAt w T H t l' s r x) : HandAt (w.setCell ⟨H, 1, none⟩ (.int .i64 l)) T H t l s r x := blk_set h 1 (.int .i64 l)
theorem HandAt.set2 {w : World} {T : TypeId} {H : Nat} {t l s' s : Int} {r : Bool} {x : Int} (h : HandAt w T H t l s' r x) : HandAt (w.setCell ⟨H, 2, none⟩ (.int .i64 s)) T H t l s r x := blk_set h 2 (.int .i64 s)
theorem HandAt.set4 {w : World} {T : TypeId} {H : Nat} {t l s : Int} {r : Bool} {x' x : Int} (h : HandAt w T H t l s r x') : HandAt (w.setCell ⟨H, 4, none⟩ (.int .i64 x)) T H t l s r x := blk_set h 4 (.int .i64 x)
theorem HandAt.drw {w : World} {T : TypeId} {H : Nat} {t l s : Int} {r : Bool} {x : Int} (h : HandAt w T H t l s r x) : HandAt w.drew T H t l s r x := h
theorem HandAt.alc {w : World} {T : TypeId} {H : Nat} {t l s : Int} {r : Bool} {x : Int} (h : HandAt w T H t l s r x) (o : Obj) : HandAt (w.alloc o) T H t l s r x := h.keep ((Keeps.refl NoS w).alloc o) (fun f => f)
theorem kH_set {w w' : World} {H : Nat} (h : Keeps (just H) w w') (j : Nat) (u : Value) : Keeps (just H) w (w'.setCell ⟨H, j, none⟩ u) := h.setCell (p := ⟨H, j, none⟩) (fun _ => rfl) u
end Go.Proofs.Ytodaiogefgdcpaa
