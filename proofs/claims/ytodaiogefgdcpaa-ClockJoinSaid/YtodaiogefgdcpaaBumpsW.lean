/- Layer 11's bumps, as a contract. -/
import Derived.Test.YtodaiogefgdcpaaBumpsArr
import Derived.Test.YtodaiogefgdcpaaRow
import Derived.Test.YtodaiogefgdcpaaHeld
namespace Go.Proofs.Ytodaiogefgdcpaa
open Go.RowKit
theorem mod_bd3 (z : Int) : ∃ t : Nat, (IntKind.u64.wrap z).tmod 3 = (t : Int) ∧ t < 3 := by
  obtain ⟨h1, h2⟩ := u64_tmod_bd z 3 (by omega)
  exact ⟨((IntKind.u64.wrap z).tmod 3).toNat, by omega, by omega⟩
theorem upd_lt {b : Nat → BumpS} {t : Nat} {x : BumpS} (h : ∀ j, j < t → b j = x) : ∀ j, j < t + 1 → upd b t x j = x := by
  intro j hj
  by_cases e : j = t
  · rw [e, upd_at]
  · rw [upd_ne _ _ e]; exact h j (by omega)
structure BuS (W w : World) (a c : Nat) (v u : Value) (G : Nat) (S : BumpsS) : Prop where
  t : TwoR W w a c v u S.M (M0 48)
  b : BumpsAt 3 w G S.b
  f : NumsAt 3 w (G + 1) S.fr
theorem TwoT.keepG {T U : TypeId} {W w w' : World} {a c g G : Nat} {v u : Value} {M N : MemS} (h : TwoT T U W w a c v u M N) (hA : Apart W G a c v u) (hg : G ≤ g) (k : Keeps (just g) w w') : TwoT T U W w' a c v u M N :=
  ⟨⟨h.s.m.keep k (fun e => by have e' : a = g := e; have := hA.a; omega) (fun i hi e => by have e' : i = g := e; have := hA.v i hi; omega), h.s.na, h.s.nv, h.s.kp.trans' k (fun i hi e => by have e' : i = g := e; have := hA.w; omega)⟩,
   ⟨h.r.m.keep k (fun e => by have e' : c = g := e; have := hA.c; omega) (fun i hi e => by have e' : i = g := e; have := hA.u i hi; omega), h.r.na, h.r.nv, h.s.kp.trans' k (fun i hi e => by have e' : i = g := e; have := hA.w; omega)⟩, h.ac, h.vc, h.ua, h.vu⟩
theorem BuS.no {W w w' : World} {a c : Nat} {v u : Value} {G : Nat} {S : BumpsS} (h : BuS W w a c v u G S) (k : Keeps NoS w w') : BuS W w' a c v u G S :=
  ⟨h.t.keep k, h.b.keep k (fun f => f), h.f.keep k (fun f => f)⟩
theorem BuS.setB {W w : World} {a c : Nat} {v u : Value} {G : Nat} {S : BumpsS} (h : BuS W w a c v u G S) (hA : Apart W G a c v u) (t : Nat) (ht : t < 3) (b : BumpS) : BuS W (setBp w G t b) a c v u G ⟨S.M, upd S.b t b, S.fr, S.O, S.G⟩ :=
  ⟨h.t.keepG hA (Nat.le_refl _) (setBp_keeps w G t b), h.b.set t ht b, h.f.keep (setBp_keeps w G t b) (fun e => by have e' : G + 1 = G := e; omega)⟩
theorem BuS.setF {W w : World} {a c : Nat} {v u : Value} {G : Nat} {S : BumpsS} (h : BuS W w a c v u G S) (hA : Apart W G a c v u) (t : Nat) (ht : t < 3) (x : Int) : BuS W (w.setCell ⟨G + 1, t, none⟩ (.int .i64 x)) a c v u G ⟨S.M, S.b, upd S.fr t x, S.O, S.G⟩ :=
  ⟨h.t.setCell hA ⟨G + 1, t, none⟩ (by show G ≤ G + 1; omega) _, h.b.keep ((Keeps.refl (just (G + 1)) w).setCell (p := ⟨G + 1, t, none⟩) (fun _ => rfl) _) (fun e => by have e' : G = G + 1 := e; omega), h.f.set t ht x⟩
theorem BuS.own {W w w' : World} {a c : Nat} {v u : Value} {G : Nat} {S : BumpsS} {M' : MemS} (h : BuS W w a c v u G S) (hA : Apart W G a c v u) (hm : MemAt w' a v M') (k : Keeps (own2m a v) w w') : BuS W w' a c v u G ⟨M', S.b, S.fr, S.O, S.G⟩ :=
  ⟨h.t.turnS hm k, h.b.keep k (hA.na (Nat.le_refl _)), h.f.keep k (hA.na (by omega))⟩
theorem RowI.ownA {T : TypeId} {W w w' : World} {lo a c G : Nat} {v u vv : Value} {l : List Int} (h : RowI T w lo vv l) (hA : Apart W G a c v u) (hG : G ≤ lo) (k : Keeps (own2m a v) w w') : RowI T w' lo vv l :=
  h.keep k (fun g hg => hA.na (by have := h.lo g hg; omega))
theorem RowI.setB {T : TypeId} {w : World} {G : Nat} {v : Value} {l : List Int} (h : RowI T w (G + 2) v l) (t : Nat) (x : BumpS) : RowI T (setBp w G t x) (G + 2) v l :=
  h.below (setBp_keeps w G t x) (fun g e => by have e' : g = G := e; omega)
theorem BuS.grown {W w w' : World} {a c : Nat} {v u o : Value} {G : Nat} {S : BumpsS} (h : BuS W w a c v u G S) (hA : Apart W G a c v u) (k : w.grownBy w' o.ownBlock) (ho : ∀ g, o.ownBlock = some g → G + 2 ≤ g) : BuS W w' a c v u G S := by
  have hk : Keeps (fun g => o.ownBlock = some g) w w' := (Keeps.refl _ w).grown k (fun g hg _ => hg)
  refine ⟨⟨⟨h.t.s.m.keep hk (fun e => by have := ho _ e; have := hA.a; omega) (fun i hi e => by have := ho _ e; have := hA.v i hi; omega), h.t.s.na, h.t.s.nv, h.t.s.kp.trans' hk (fun i hi e => by have := ho _ e; have := hA.w; omega)⟩, ⟨h.t.r.m.keep hk (fun e => by have := ho _ e; have := hA.c; omega) (fun i hi e => by have := ho _ e; have := hA.u i hi; omega), h.t.r.na, h.t.r.nv, h.t.s.kp.trans' hk (fun i hi e => by have := ho _ e; have := hA.w; omega)⟩, h.t.ac, h.t.vc, h.t.ua, h.t.vu⟩, h.b.keep hk (fun e => by have := ho _ e; omega), h.f.keep hk (fun e => by have := ho _ e; omega)⟩
/-- what stands while both rows grow -/
structure R26 (W w : World) (a c : Nat) (v u : Value) (G : Nat) (S : BumpsS) (ov gv : Value) (O Gl : List Int) (t : Nat) (y ft : Int) : Prop where
  q : BuS W w a c v u G S
  o : RowI 2 w (G + 2) ov O
  g : RowI 2 w (G + 2) gv Gl
  ap : ∀ g, gv.ownBlock = some g → ov.ownBlock ≠ some g
  cy : w.cell? ⟨G, t * 4 + 3, none⟩ = some (.int .i64 y)
  cf : w.cell? ⟨G + 1, t, none⟩ = some (.int .i64 ft)
theorem R26.no {W w w' : World} {a c : Nat} {v u : Value} {G : Nat} {S : BumpsS} {ov gv : Value} {O Gl : List Int} {t : Nat} {y ft : Int} (h : R26 W w a c v u G S ov gv O Gl t y ft) (k : Keeps NoS w w') : R26 W w' a c v u G S ov gv O Gl t y ft :=
  ⟨h.q.no k, h.o.no k, h.g.no k, h.ap, k.cell h.cy (fun f => f), k.cell h.cf (fun f => f)⟩
theorem R26.app1 {W w w' : World} {a c : Nat} {v u : Value} {G : Nat} {S : BumpsS} {ov gv v' : Value} {O Gl : List Int} {t : Nat} {y ft : Int} (h : R26 W w a c v u G S ov gv O Gl t y ft) (hA : Apart W G a c v u) (hr : RowI 2 w' (G + 2) v' (O ++ [y])) (k : w.grownBy w' ov.ownBlock) (hb : ∀ g, v'.ownBlock = some g → ov.ownBlock = some g ∨ g = w.heap.size) : R26 W w' a c v u G S v' gv (O ++ [y]) Gl t y ft := by
  have hk : Keeps (fun g => ov.ownBlock = some g) w w' := (Keeps.refl _ w).grown k (fun g hg _ => hg)
  refine ⟨h.q.grown hA k h.o.lo, hr, h.g.grown k h.ap, fun g hg e => ?_, hk.cell h.cy (fun e => by have := h.o.lo _ e; dsimp only at this; omega), hk.cell h.cf (fun e => by have := h.o.lo _ e; dsimp only at this; omega)⟩
  rcases hb g e with h1 | h1
  · exact h.ap g hg h1
  · have := h.g.lt hg; omega
theorem R26.app2 {W w w' : World} {a c : Nat} {v u : Value} {G : Nat} {S : BumpsS} {ov gv v' : Value} {O Gl : List Int} {t : Nat} {y ft : Int} (h : R26 W w a c v u G S ov gv O Gl t y ft) (hA : Apart W G a c v u) (hr : RowI 2 w' (G + 2) v' (Gl ++ [ft])) (k : w.grownBy w' gv.ownBlock) (hb : ∀ g, v'.ownBlock = some g → gv.ownBlock = some g ∨ g = w.heap.size) : R26 W w' a c v u G S ov v' O (Gl ++ [ft]) t y ft := by
  have hk : Keeps (fun g => gv.ownBlock = some g) w w' := (Keeps.refl _ w).grown k (fun g hg _ => hg)
  refine ⟨h.q.grown hA k h.g.lo, h.o.grown k (fun g hg e => h.ap g e hg), hr, fun g hg e => ?_, hk.cell h.cy (fun e => by have := h.g.lo _ e; dsimp only at this; omega), hk.cell h.cf (fun e => by have := h.g.lo _ e; dsimp only at this; omega)⟩
  rcases hb g hg with h1 | h1
  · exact h.ap g h1 e
  · have := h.o.lt e; omega
theorem R26.setB {W w : World} {a c : Nat} {v u : Value} {G : Nat} {M : MemS} {b : Nat → BumpS} {f : Nat → Int} {P Q : List Int} {ov gv : Value} {O Gl : List Int} {t : Nat} {y ft : Int} {x : BumpS} (h : R26 W w a c v u G ⟨M, upd b t x, f, P, Q⟩ ov gv O Gl t y ft) (hA : Apart W G a c v u) (ht : t < 3) (z : BumpS) :
    BuS W (setBp w G t z) a c v u G ⟨M, upd b t z, f, O, Gl⟩ ∧ RowI 2 (setBp w G t z) (G + 2) ov O ∧ RowI 2 (setBp w G t z) (G + 2) gv Gl ∧ ∀ g, gv.ownBlock = some g → ov.ownBlock ≠ some g := by
  have h1 := h.q.setB hA t ht z
  have e : upd (upd b t x) t z = upd b t z := by
    funext k
    by_cases e : k = t
    · subst e; rw [upd_at, upd_at]
    · rw [upd_ne _ _ e, upd_ne _ _ e, upd_ne _ _ e]
  dsimp only at h1
  rw [e] at h1
  exact ⟨⟨h1.t, h1.b, h1.f⟩, h.o.setB t z, h.g.setB t z, h.ap⟩
/-- one number in a block of its own -/
structure NewC (w : World) (ov gv : Value) (b : Nat) (z : Int) : Prop where
  c : w.cell? ⟨b, 0, none⟩ = some (.int .i64 z)
  lt : b < w.heap.size
  o : ov.ownBlock ≠ some b
  g : gv.ownBlock ≠ some b
theorem NewC.make {W w : World} {a c : Nat} {v u : Value} {G : Nat} {S : BumpsS} {ov gv : Value} {O Gl : List Int} {t : Nat} {y ft : Int} (h : R26 W w a c v u G S ov gv O Gl t y ft) (z : Int) : NewC (w.alloc (.cells #[.int .i64 z] 2)) ov gv w.heap.size z := by
  have hc := cells_new w [.int .i64 z] 2 0 (.int .i64 z) rfl
  rw [add_zero_off] at hc
  exact ⟨hc, by simp, fun e => by have := h.o.lt e; omega, fun e => by have := h.g.lt e; omega⟩
theorem NewC.no {w w' : World} {ov gv : Value} {b : Nat} {z : Int} (h : NewC w ov gv b z) (k : Keeps NoS w w') : NewC w' ov gv b z := ⟨k.cell h.c (fun f => f), Nat.lt_of_lt_of_le h.lt k.size, h.o, h.g⟩
theorem NewC.app1 {w w' : World} {ov gv v' : Value} {b : Nat} {z : Int} (h : NewC w ov gv b z) (k : w.grownBy w' ov.ownBlock) (hb : ∀ g, v'.ownBlock = some g → ov.ownBlock = some g ∨ g = w.heap.size) : NewC w' v' gv b z := by
  have hk : Keeps (fun g => ov.ownBlock = some g) w w' := (Keeps.refl _ w).grown k (fun g hg _ => hg)
  refine ⟨hk.cell h.c (fun e => h.o e), Nat.lt_of_lt_of_le h.lt hk.size, fun e => ?_, h.g⟩
  rcases hb b e with h1 | h1
  · exact h.o h1
  · have := h.lt; omega
theorem NewC.news {w : World} {ov gv : Value} {b : Nat} {z : Int} (h : NewC w ov gv b z) : ∀ j, j < 1 → w.cell? ((⟨b, 0, none⟩ : Addr).add j) = some (.int .i64 ([z].getD j 0)) := fun j hj => by
  obtain rfl : j = 0 := by omega
  rw [add_zero_off]; exact h.c
theorem int64T : ∃ i, IntT 2 49 i := by
  obtain ⟨i, h1, h2, h3, h4⟩ := info_parts infoI64
  exact ⟨i, by kernel_rfl, h1, h2, h3, h4⟩
theorem CI.stepAt {k : Int} (hk : k = 1 ∨ k = 2 ∨ k = 3) {n : Nat} (hn : n < 1000) {M : MemS} {b : Nat → BumpS} {fr : Nat → Int} {O Gl : List Int} (h : CI k n ⟨M, b, fr, O, Gl⟩) {t : Nat} (ht : t < 3) {q : BumpS} (hb : b t = q) {F : Nat → Int} (hF : (if q.s = 0 then upd fr t (M.word (atK k)) else fr) = F)
    (M' : MemS) (k' s' x' y' : Int) (hd : stepB ⟨2, 2, 4, 0, 2⟩ M q = (M', ⟨k', s', x', y'⟩)) :
    (s' = 9 → CI k (n + 1) ⟨M', upd b t ⟨k, 0, 0, 0⟩, F, O ++ [y'], Gl ++ [F t]⟩) ∧ (s' ≠ 9 → CI k (n + 1) ⟨M', upd b t ⟨k', s', x', y'⟩, F, O, Gl⟩) := by
  have hs := h.step hk hn ht
  have e : bumpsStep k t ⟨M, b, fr, O, Gl⟩ = if s' = 9 then ⟨M', upd b t ⟨k, 0, 0, 0⟩, F, O ++ [y'], Gl ++ [F t]⟩ else ⟨M', upd b t ⟨k', s', x', y'⟩, F, O, Gl⟩ := by
    subst hb
    have hf : frK k t ⟨M, b, fr, O, Gl⟩ = F := hF
    simp only [bumpsStep, hf, hd]
  rw [e] at hs
  exact ⟨fun h9 => by rwa [if_pos h9] at hs, fun h9 => by rwa [if_neg h9] at hs⟩
theorem RowI.lower0 {T : TypeId} {w : World} {lo : Nat} {v : Value} {l : List Int} (h : RowI T w lo v l) : RowI T w 0 v l := ⟨h.own, fun _ _ => Nat.zero_le _⟩
theorem Keeps.set1 (w : World) (g j : Nat) (u : Value) : Keeps (just g) w (w.setCell ⟨g, j, none⟩ u) := (Keeps.refl (just g) w).setCell (p := ⟨g, j, none⟩) (fun _ => rfl) u
/-- what bumps tells -/
def BumpsR (k : Int) (n : Nat) (w : World) (e : Ending) (w' : World) : Prop := ∃ (S : BumpsS) (o g : Value), e = .returned (.tuple #[o, g, .int .i64 (S.M.word (atK k)), .bool true]) ∧ CI k n S ∧ RowI 2 w' 0 o S.O ∧ RowI 2 w' 0 g S.G ∧ S.O.length ≤ n ∧ Keeps NoS w w'
theorem buS_new {W w2 : World} {a c : Nat} {v u : Value} {G : Nat} (hG : w2.heap.size = G) (hT : TwoR W w2 a c v u (M0 48) (M0 48)) :
    ∃ w3, (w2.alloc (.cells #[.int .i64 0, .int .i64 0, .int .i64 0, .int .i64 0, .int .i64 0, .int .i64 0, .int .i64 0, .int .i64 0, .int .i64 0, .int .i64 0, .int .i64 0, .int .i64 0] 113)).alloc (.cells #[.int .i64 0, .int .i64 0, .int .i64 0] 41) = w3 ∧ BuS W w3 a c v u G ⟨M0 48, fun _ => ⟨0, 0, 0, 0⟩, fun _ => 0, [], []⟩ ∧ Apart W G a c v u := by
  subst hG
  refine ⟨_, rfl, ⟨hT.keep (((Keeps.refl NoS w2).alloc _).alloc _), ?_, ?_⟩, hT.apart⟩
  · have h : BumpsAt 3 (w2.alloc (.cells #[.int .i64 0, .int .i64 0, .int .i64 0, .int .i64 0, .int .i64 0, .int .i64 0, .int .i64 0, .int .i64 0, .int .i64 0, .int .i64 0, .int .i64 0, .int .i64 0] 113)) w2.heap.size (fun _ => ⟨0, 0, 0, 0⟩) := by
      refine ⟨_, _, heap_alloc_new _ _, fun t ht => ?_⟩
      match t, ht with
      | 0, _ => exact ⟨rfl, rfl, rfl, rfl⟩
      | 1, _ => exact ⟨rfl, rfl, rfl, rfl⟩
      | 2, _ => exact ⟨rfl, rfl, rfl, rfl⟩
    exact h.keep ((Keeps.refl NoS _).alloc (.cells #[.int .i64 0, .int .i64 0, .int .i64 0] 41)) (fun f => f)
  · have h : NumsAt 3 ((w2.alloc (.cells #[.int .i64 0, .int .i64 0, .int .i64 0, .int .i64 0, .int .i64 0, .int .i64 0, .int .i64 0, .int .i64 0, .int .i64 0, .int .i64 0, .int .i64 0, .int .i64 0] 113)).alloc (.cells #[.int .i64 0, .int .i64 0, .int .i64 0] 41)) (w2.alloc (.cells #[.int .i64 0, .int .i64 0, .int .i64 0, .int .i64 0, .int .i64 0, .int .i64 0, .int .i64 0, .int .i64 0, .int .i64 0, .int .i64 0, .int .i64 0, .int .i64 0] 113)).heap.size (fun _ => 0) := by
      refine ⟨_, _, heap_alloc_new _ _, fun t ht => ?_⟩
      match t, ht with
      | 0, _ => rfl
      | 1, _ => rfl
      | 2, _ => rfl
    simpa using h
set_option maxHeartbeats 80000000 in
set_option maxRecDepth 100000 in
theorem bumps_any (en ck k : Int) (hst : startB en ck = ⟨k, 0, 0, 0⟩) (hk : k = 1 ∨ k = 2 ∨ k = 3) (hen : (en == 2) = (k == 3)) (p0 : Value) (L : List Int) (w : World) (f0 : InI w p0 L) (h100 : L.length ≤ 100) :
    Calls Try.prog 35 #[.int .i64 en, .int .i64 ck, p0] w (BumpsR k L.length w) := by
  obtain ⟨p, cap, rfl, hn, hc, _⟩ := f0
  obtain ⟨i6, hi6⟩ := int64T
  have HI6 := Lib.hid hi6
  have HW := Lib.hid hc
  have hsa := start_any en ck
  rw [hst] at hsa
  unfold bumpV at hsa
  dsimp only at hsa
  have HSA := Lib.hid hsa; have HKK := Lib.hid hk
  clear hc hsa hst hi6
  go_enter Try.func35, Try.ntmps35
  go_wp2_with (go_at_call 15; refine (map8_any _).mono ?_; rintro e w1 ⟨rfl, hk1⟩)
  have hB := mapAt_new w1 2 2 4 0 2 25
  have hk1' := hk1.alloc (.cells #[.int .i64 2, .int .i64 2, .int .i64 4, .int .i64 0, .int .i64 2] 25)
  obtain ⟨B, hBe⟩ : ∃ B, w1.heap.size = B := ⟨_, rfl⟩
  have hBl : B < (w1.alloc (.cells #[.int .i64 2, .int .i64 2, .int .i64 4, .int .i64 0, .int .i64 2] 25)).heap.size := by rw [← hBe]; simp
  rw [hBe] at hB
  rw [hBe]
  generalize w1.alloc (.cells #[.int .i64 2, .int .i64 2, .int .i64 4, .int .i64 0, .int .i64 2] 25) = W at *
  refine (both_any 2 2 4 0 2 48 size8 (by decide) (by decide) W).mono ?_
  rintro e w2 ⟨a, c, v, u, rfl, hT⟩
  have HBm := Lib.hid (fun w' (h : Keeps NoS W w') => mapC11 (hB.keep h (fun f => f)))
  obtain ⟨m0, m1, m2, m3, m4⟩ := HBm.out _ hT.s.kp
  have HWk := Lib.hid hk1'
  have HT := Lib.hid hT
  clear hBe hk1 hk1' hB hT
  by_cases h3 : k = 3
  · subst h3
    have HAT := Lib.hid (show atK 3 = 1 from rfl)
    have hen2 : (en == 2) = true := by rw [hen]; rfl
    clear hen
    go_wp2_with (first
      | (go_at_call 50; refine (clock_lit 2 2 4 0 2 0 clk8.1 _).mono ?_; rintro e w4 ⟨rfl, hk4⟩; have HT4 := Lib.hid (HT.out.keep hk4); obtain ⟨n0, n1, n2, n3, n4⟩ := HBm.out _ HT4.out.s.kp)
      | (go_at_call 36; refine (seq_lit 2 2 4 0 2 1 clk8.2 _).mono ?_; rintro e wx ⟨rfl, hkx⟩; have HTx := Lib.hid (HT4.out.keep hkx)))
    obtain ⟨G, hG⟩ : ∃ G, wx.heap.size = G := ⟨_, rfl⟩
    obtain ⟨w3, hw3, hr, hA⟩ := buS_new hG HTx.out
    have HR := Lib.hid hr; have HA := Lib.hid hA; have HW3 := Lib.hid hw3
    clear hr hA hw3
    go_wp2_with fail
    rw [HW3.out]
    (try rw [hG])
    clear hG HW3 HTx
    go_loopw [16] (fun i wr => ∃ (t : Nat) (b : Nat → BumpS), t ≤ 3 ∧ i = .int .i64 t ∧ BuS W wr a c v u G ⟨M0 48, b, fun _ => 0, [], []⟩ ∧ ∀ j, j < t → b j = ⟨3, 0, 0, 0⟩) (fun i _ => 3 - (intOf i).toNat)
    case atStart => exact ⟨0, _, by omega, rfl, HR.out, fun j hj => absurd hj (by omega)⟩
    case round =>
      obtain ⟨t, b, ht, rfl, hr, hbt⟩ := hrel
      have HX := Lib.hid hr; have HBT := Lib.hid hbt
      clear hr hbt HR
      by_cases h4 : t < 3
      · have ht1 : (0 : Int) ≤ (t : Int) := by omega
        have ht2 : (t : Int) < 3 := by omega
        go_wp2_with (go_at_call 37; refine (HSA.out _).mono ?_; rintro e w5 ⟨rfl, hk5⟩; have hX5 := HX.out.no hk5; obtain ⟨bk, hbk⟩ : ∃ bk, b t = bk := ⟨_, rfl⟩; obtain ⟨q0, q1, q2, q3⟩ := bk; obtain ⟨x0, x1, x2, x3⟩ := hX5.b.cell h4 hbk; have f0 := hX5.b.free (t * 4); have f1 := hX5.b.free (t * 4 + 1); have f2 := hX5.b.free (t * 4 + 2); have f3 := hX5.b.free (t * 4 + 3); have fl := hX5.b.lt; have hY := hX5.setB HA.out t h4 ⟨3, 0, 0, 0⟩; unfold setBp at hY; dsimp only at hY; have HY := Lib.hid hY; clear hX5 hY hbk)
        go_roundw
        case rel => exact ⟨t + 1, _, by omega, by go_num, HY.out, upd_lt HBT.out⟩
        case measure => simp [intOf]; omega
      · have hci : CI 3 0 ⟨M0 48, b, fun _ => 0, [], []⟩ := by
          have h0 := CI.start (k := 3) (by first | decide | exact HKK.out) (fun _ => 0)
          exact ⟨h0.len, h0.st, h0.wlo, h0.whi, h0.ev, fun j hj => .inl (HBT.out j (by omega)), h0.ln, h0.lt, h0.own⟩
        have HCI := Lib.hid hci
        clear hci HBT
        go_wp2_with fail
        go_loopw [17, 18, 19] (fun ov gv iv wq => ∃ (n : Nat) (S : BumpsS), n ≤ L.length ∧ iv = .int .i64 n ∧ CI 3 n S ∧ BuS W wq a c v u G S ∧ RowI 2 wq (G + 2) ov S.O ∧ RowI 2 wq (G + 2) gv S.G ∧ S.O.length ≤ n ∧ (∀ g, gv.ownBlock = some g → ov.ownBlock ≠ some g)) (fun _ _ iv _ => L.length - (intOf iv).toNat)
        case atStart => exact ⟨0, _, by omega, rfl, HCI.out, HX.out, RowI.nil _ _ _, RowI.nil _ _ _, Nat.zero_le _, by simp [Value.ownBlock]⟩
        case round =>
          obtain ⟨n, ⟨M, b, fr, O, Gl⟩, hnl, rfl, hci, hbu, ho, hg, hol, hgb⟩ := hrel
          have HC := Lib.hid hci; have HU := Lib.hid hbu; have HO := Lib.hid ho; have HG := Lib.hid hg; have HGB := Lib.hid hgb
          clear hci hbu ho hg hgb HX HCI
          by_cases hlt : n < L.length
          · obtain ⟨bb, off, rfl, hcs⟩ := HW.out (fun e => by rw [e] at hlt; simp at hlt)
            have cn := (HWk.out.trans HU.out.t.s.kp).cell (hcs n hlt) (fun f => f)
            clear hcs
            generalize L.getD n 0 = z at cn
            obtain ⟨t, hz, ht3⟩ := mod_bd3 z
            have ht1 : (0 : Int) ≤ (t : Int) := by omega
            have ht2 : (t : Int) < 3 := by omega
            have hbs := HC.out.bs t ht3
            dsimp only at hbs
            have hnst : M.st = (n : Int) := HC.out.st
            have hfl := HU.out.f.lt
            dsimp only at hol
            have hgl : Gl.length = O.length := HC.out.ln
            have hgl' : Gl.length ≤ 1000 := by omega
            clear hgl
            have ff := HU.out.f.free t
            have fc := HU.out.f.cell t ht3
            have hwA : M.atP 1 = M.word (atK 3) := by rw [HAT.out]; exact atP_nat (n := 1) (by rw [HC.out.len]; decide)
            have HNST := Lib.hid hnst; have HWA := Lib.hid hwA
            clear hnst hwA
            rcases hbs with hb | ⟨hb, hf0, hf1, _⟩
            · obtain ⟨x0, x1, x2, x3⟩ := HU.out.b.cell ht3 hb
              have hsl := CI.stepAt (k := 3) (by first | decide | exact HKK.out) (show n < 1000 by omega) HC.out ht3 hb (F := upd fr t (M.word (atK 3))) (if_pos rfl)
              have HSL := Lib.hid hsl; have HB := Lib.hid hb
              clear hsl hb
              obtain ⟨wd, hwd⟩ : ∃ x, M.word (atK 3) = x := ⟨_, rfl⟩
              rw [hwd] at HSL HWA
              clear hwd
              go_upto_region 21 with (go_at_call 19; refine (peek_tot a v M 1 _ HU.out.t.s.m).mono ?_; rw [HWA.out]; rintro e w6 ⟨rfl, rfl⟩)
              have hU1 := HU.out.setF HA.out t ht3 wd
              have hO1 := HO.out.below (S := just (G + 1)) (Keeps.set1 wr (G + 1) t (.int .i64 wd)) (fun g h => by have h' : g = G + 1 := h; omega)
              have hG1 := HG.out.below (S := just (G + 1)) (Keeps.set1 wr (G + 1) t (.int .i64 wd)) (fun g h => by have h' : g = G + 1 := h; omega)
              dsimp only at hU1
              generalize wr.setCell ⟨G + 1, t, none⟩ (.int .i64 wd) = wz at *
              generalize upd fr t wd = f1 at *
              have HU1 := Lib.hid hU1; have HO1 := Lib.hid hO1; have HG1 := Lib.hid hG1
              clear hU1 hO1 hG1 x0 x1 x2 x3 fc ff hfl cn
              clear HU HO HG
              generalize hf1t : f1 t = ft at *
              have HFT := Lib.hid hf1t
              clear hf1t
              obtain ⟨M', h', hd⟩ : ∃ M' h', stepB ⟨2, 2, 4, 0, 2⟩ M ⟨3, 0, 0, 0⟩ = (M', h') := ⟨_, _, rfl⟩
              obtain ⟨k', s', x', y'⟩ := h'
              have hsl := HSL.out M' k' s' x' y' hd
              have HD := Lib.hid hd
              clear hd HSL
              obtain ⟨m0, m1, m2, m3, m4⟩ := HBm.out _ HU1.out.t.s.kp
              have hbd := HU1.out.no ((Keeps.refl NoS _).drew)
              have hOd := HO1.out.no ((Keeps.refl NoS _).drew)
              have hGd := HG1.out.no ((Keeps.refl NoS _).drew)
              go_upto_region 22 with (go_at_call 26; refine (steps_any a v M _ HU1.out.t.s.m).mono ?_; rw [HNST.out]; rintro e w6 ⟨rfl, rfl⟩)
              obtain ⟨x0, x1, x2, x3⟩ := HU1.out.b.cell ht3 HB.out
              refine wp_region_kept_drew 8 (fun w' => (w'.cell? ⟨G, t * 4, none⟩ = some (.int .i64 3) ∧ w'.cell? ⟨G, t * 4 + 1, none⟩ = some (.int .i64 0) ∧ w'.cell? ⟨G, t * 4 + 2, none⟩ = some (.int .i64 0) ∧ w'.cell? ⟨G, t * 4 + 3, none⟩ = some (.int .i64 0)) ∧ (w'.cell? ⟨B, 0, none⟩ = some (.int .i64 2) ∧ w'.cell? ⟨B, 1, none⟩ = some (.int .i64 2) ∧ w'.cell? ⟨B, 2, none⟩ = some (.int .i64 4) ∧ w'.cell? ⟨B, 3, none⟩ = some (.int .i64 0) ∧ w'.cell? ⟨B, 4, none⟩ = some (.int .i64 2))) 8 (fun _ => True) (by kernel_rfl) (⟨⟨x0, x1, x2, x3⟩, ⟨m0, m1, m2, m3, m4⟩⟩) (trivial) (fun hK => ?_)
              refine wpAnyK_take1 (i := 0) (v := ?_) (by simp only [List.getElem?_toArray, List.getElem?_cons_succ, List.getElem?_cons_zero]; rfl) (by kernel_rfl) (by kernel_rfl) (by kernel_rfl) (by kernel_rfl) (by kernel_rfl) (by kernel_rfl) (by exact fun _ _ _ h => h) (Or.inl ⟨by rfl, ?_⟩) (hK _) ?_
              rotate_left
              · intro w hSw; (try dsimp only at hSw); go_simp; (try with_reducible rfl)
              try simp only [Act.put, List.setIfInBounds_toArray, List.set_cons_zero, List.set_cons_succ]
              refine wpAnyK_take1 (i := 1) (v := ?_) (by simp only [List.getElem?_toArray, List.getElem?_cons_succ, List.getElem?_cons_zero]; rfl) (by kernel_rfl) (by kernel_rfl) (by kernel_rfl) (by kernel_rfl) (by kernel_rfl) (by kernel_rfl) (by exact fun _ _ _ h => h) (Or.inl ⟨by rfl, ?_⟩) (hK _) ?_
              rotate_left
              · intro w hSw; (try dsimp only at hSw); go_simp; (try with_reducible rfl)
              try simp only [Act.put, List.setIfInBounds_toArray, List.set_cons_zero, List.set_cons_succ]
              refine wpAnyK_take1 (i := 2) (v := ?_) (by simp only [List.getElem?_toArray, List.getElem?_cons_succ, List.getElem?_cons_zero]; rfl) (by kernel_rfl) (by kernel_rfl) (by kernel_rfl) (by kernel_rfl) (by kernel_rfl) (by kernel_rfl) (by exact fun _ _ _ h => h) (Or.inl ⟨by rfl, ?_⟩) (hK _) ?_
              rotate_left
              · intro w hSw; (try dsimp only at hSw); go_simp; (try with_reducible rfl)
              try simp only [Act.put, List.setIfInBounds_toArray, List.set_cons_zero, List.set_cons_succ]
              refine wpAnyK_take1 (i := 3) (v := ?_) (by simp only [List.getElem?_toArray, List.getElem?_cons_succ, List.getElem?_cons_zero]; rfl) (by kernel_rfl) (by kernel_rfl) (by kernel_rfl) (by kernel_rfl) (by kernel_rfl) (by kernel_rfl) (by exact fun _ _ _ h => h) (Or.inl ⟨by rfl, ?_⟩) (hK _) ?_
              rotate_left
              · intro w hSw; (try dsimp only at hSw); go_simp; (try with_reducible rfl)
              try simp only [Act.put, List.setIfInBounds_toArray, List.set_cons_zero, List.set_cons_succ]
              refine wpAnyK_take1 (i := 4) (v := ?_) (by simp only [List.getElem?_toArray, List.getElem?_cons_succ, List.getElem?_cons_zero]; rfl) (by kernel_rfl) (by kernel_rfl) (by kernel_rfl) (by kernel_rfl) (by kernel_rfl) (by kernel_rfl) (by exact fun _ _ _ h => h) (Or.inl ⟨by rfl, ?_⟩) (hK _) ?_
              rotate_left
              · intro w hSw; (try dsimp only at hSw); go_simp; (try with_reducible rfl)
              try simp only [Act.put, List.setIfInBounds_toArray, List.set_cons_zero, List.set_cons_succ]
              refine wpAnyK_take1 (i := 5) (v := ?_) (by simp only [List.getElem?_toArray, List.getElem?_cons_succ, List.getElem?_cons_zero]; rfl) (by kernel_rfl) (by kernel_rfl) (by kernel_rfl) (by kernel_rfl) (by kernel_rfl) (by kernel_rfl) (by exact fun _ _ _ h => h) (Or.inl ⟨by rfl, ?_⟩) (hK _) ?_
              rotate_left
              · intro w hSw; (try dsimp only at hSw); go_simp; (try with_reducible rfl)
              try simp only [Act.put, List.setIfInBounds_toArray, List.set_cons_zero, List.set_cons_succ]
              refine wpAnyK_one (i := 6) (by kernel_rfl) (by simp only [List.getElem?_toArray, List.getElem?_cons_succ, List.getElem?_cons_zero]; rfl) (fun kC hkC => ?_)
              go_simp
              refine (step_any 2 2 4 0 2 3 0 0 0 a v M _ hbd.t.s.m).mono ?_; rw [HD.out]; unfold bumpV; dsimp only; rintro e w7 ⟨rfl, hm, hk⟩; have hX7 := hbd.own HA.out hm hk; have hO7 := hOd.ownA HA.out (by omega) hk; have hG7 := hGd.ownA HA.out (by omega) hk; have m7 := HBm.out _ hX7.t.s.kp; have c7 := hX7.b.cell ht3 HB.out; have F0 := hX7.b.free (t * 4); have F1 := hX7.b.free (t * 4 + 1); have F2 := hX7.b.free (t * 4 + 2); have F3 := hX7.b.free (t * 4 + 3); have hl7 := hX7.b.lt; have hQ7 := hX7.setB HA.out t ht3 ⟨k', s', x', y'⟩; have hO8 := hO7.setB t ⟨k', s', x', y'⟩; have hG8 := hG7.setB t ⟨k', s', x', y'⟩; unfold setBp at hQ7 hO8 hG8; dsimp only at hQ7 hO8 hG8; have HQ := Lib.hid hQ7; have HO7 := Lib.hid hO8; have HG7 := Lib.hid hG8; clear hQ7 hO8 hG8 hm hX7 hO7 hG7
              (try go_wp2_with fail)
              refine hkC.out _ _ (⟨c7, m7⟩) (trivial) (fun hK => ?_)
              clear hkC kC
              try simp only [Act.put, List.setIfInBounds_toArray, List.set_cons_zero, List.set_cons_succ]
              refine wpAnyK_take1 (i := 7) (v := ?_) (by simp only [List.getElem?_toArray, List.getElem?_cons_succ, List.getElem?_cons_zero]; rfl) (by kernel_rfl) (by kernel_rfl) (by kernel_rfl) (by kernel_rfl) (by kernel_rfl) (by kernel_rfl) (by exact fun _ _ _ h => h) (Or.inl ⟨by rfl, ?_⟩) (hK _) ?_
              rotate_left
              · intro w hSw; (try dsimp only at hSw); go_simp; (try with_reducible rfl)
              try simp only [Act.put, List.setIfInBounds_toArray, List.set_cons_zero, List.set_cons_succ]
              refine wpAnyK_last (i := 8) (by kernel_rfl) (by simp only [List.getElem?_toArray, List.getElem?_cons_succ, List.getElem?_cons_zero]; rfl) (by kernel_rfl) (by kernel_rfl) (fun kC hkC => ?_)
              go_simp
              refine hkC.out _ _ ?_
              clear hkC kC
              try simp only [Act.put, List.setIfInBounds_toArray, List.set_cons_zero, List.set_cons_succ]
              refine wpAnyK_done (by kernel_rfl) ?_ _
              generalize (((w7.setCell ⟨G, t * 4, none⟩ (.int .i64 k')).setCell ⟨G, t * 4 + 1, none⟩ (.int .i64 s')).setCell ⟨G, t * 4 + 2, none⟩ (.int .i64 x')).setCell ⟨G, t * 4 + 3, none⟩ (.int .i64 y') = wy at *
              clear c7 F0 F1 F2 F3 hl7 x0 x1 x2 x3 m0 m1 m2 m3 m4 hbd hOd hGd m7 hk HU1 HO1 HG1 HD
              obtain ⟨x0, x1, x2, x3⟩ := HQ.out.b.cell ht3 (upd_at _ _ _)
              have hfc := HQ.out.f.cell t ht3
              dsimp only at hfc
              rw [HFT.out] at hfc
              by_cases h9 : s' = 9
              · subst h9
                have hsl := hsl.1 rfl
                have hst1 : M'.st = (n : Int) + 1 := hsl.st
                have HST1 := Lib.hid hst1; have HSL := Lib.hid hsl
                clear hsl hst1
                go_upto_region 26 with (go_at_call 26; refine (steps_any a v M' _ HQ.out.t.s.m).mono ?_; rw [HST1.out]; rintro e w8 ⟨rfl, rfl⟩)
                have hR : R26 W wy.drew a c v u G ⟨M', upd b t ⟨k', 9, x', y'⟩, f1, O, Gl⟩ u17 u18 O Gl t y' ft := ⟨HQ.out.no ((Keeps.refl NoS _).drew), HO7.out.no ((Keeps.refl NoS _).drew), HG7.out.no ((Keeps.refl NoS _).drew), HGB.out, x3, hfc⟩
                clear x0 x1 x2 x3 hfc HQ HO7 HG7
                refine wp_region_held_drew (S := (fun w' => w'.cell? ⟨G, t * 4 + 3, none⟩ = some (.int .i64 y') ∧ w'.cell? ⟨G + 1, t, none⟩ = some (.int .i64 ft))) (by kernel_rfl) (⟨hR.cy, hR.cf⟩) (fun hHeld => ?_)
                generalize wy.drew = wq at *
                refine wpAnyH_take (i := 0) (v := ?_) (by simp only [List.getElem?_toArray, List.getElem?_cons_succ, List.getElem?_cons_zero]; rfl) (by kernel_rfl) (by kernel_rfl) (by kernel_rfl) (by exact fun _ _ _ h => h) (Or.inl ⟨by rfl, ?_⟩) hHeld ?_
                rotate_left
                · intro w hSw; (try dsimp only at hSw); go_simp; (try with_reducible rfl)
                try simp only [Act.put, List.setIfInBounds_toArray, List.set_cons_zero, List.set_cons_succ]
                refine wpAnyH_take (i := 1) (v := ?_) (by simp only [List.getElem?_toArray, List.getElem?_cons_succ, List.getElem?_cons_zero]; rfl) (by kernel_rfl) (by kernel_rfl) (by kernel_rfl) (by exact fun _ _ _ h => h) (Or.inl ⟨by rfl, ?_⟩) hHeld ?_
                rotate_left
                · intro w hSw; (try dsimp only at hSw); go_simp; (try with_reducible rfl)
                try simp only [Act.put, List.setIfInBounds_toArray, List.set_cons_zero, List.set_cons_succ]
                refine wpAnyH_take (i := 2) (v := ?_) (by simp only [List.getElem?_toArray, List.getElem?_cons_succ, List.getElem?_cons_zero]; rfl) (by kernel_rfl) (by kernel_rfl) (by kernel_rfl) (by exact fun _ _ _ h => h) (Or.inl ⟨by rfl, ?_⟩) hHeld ?_
                rotate_left
                · intro w hSw; (try dsimp only at hSw); go_simp; (try with_reducible rfl)
                try simp only [Act.put, List.setIfInBounds_toArray, List.set_cons_zero, List.set_cons_succ]
                refine wpAnyH_take (i := 3) (v := ?_) (by simp only [List.getElem?_toArray, List.getElem?_cons_succ, List.getElem?_cons_zero]; rfl) (by kernel_rfl) (by kernel_rfl) (by kernel_rfl) (by exact fun _ _ _ h => h) (Or.inl ⟨by rfl, ?_⟩) hHeld ?_
                rotate_left
                · intro w hSw; (try dsimp only at hSw); go_simp; (try with_reducible rfl)
                try simp only [Act.put, List.setIfInBounds_toArray, List.set_cons_zero, List.set_cons_succ]
                refine wpAnyH_take (i := 4) (v := ?_) (by simp only [List.getElem?_toArray, List.getElem?_cons_succ, List.getElem?_cons_zero]; rfl) (by kernel_rfl) (by kernel_rfl) (by kernel_rfl) (by exact fun _ _ _ h => h) (Or.inl ⟨by rfl, ?_⟩) hHeld ?_
                rotate_left
                · intro w hSw; (try dsimp only at hSw); go_simp; (try with_reducible rfl)
                try simp only [Act.put, List.setIfInBounds_toArray, List.set_cons_zero, List.set_cons_succ]
                refine wpAnyH_take (i := 7) (v := ?_) (by simp only [List.getElem?_toArray, List.getElem?_cons_succ, List.getElem?_cons_zero]; rfl) (by kernel_rfl) (by kernel_rfl) (by kernel_rfl) (by exact fun _ _ _ h => h) (Or.inl ⟨by rfl, ?_⟩) hHeld ?_
                rotate_left
                · intro w hSw; (try dsimp only at hSw); go_simp; (try with_reducible rfl)
                try simp only [Act.put, List.setIfInBounds_toArray, List.set_cons_zero, List.set_cons_succ]
                refine wpAnyH_take (i := 8) (v := ?_) (by simp only [List.getElem?_toArray, List.getElem?_cons_succ, List.getElem?_cons_zero]; rfl) (by kernel_rfl) (by kernel_rfl) (by kernel_rfl) (by exact fun _ _ _ h => h) (Or.inl ⟨by rfl, ?_⟩) hHeld ?_
                rotate_left
                · intro w hSw; (try dsimp only at hSw); go_simp; (try with_reducible rfl)
                try simp only [Act.put, List.setIfInBounds_toArray, List.set_cons_zero, List.set_cons_succ]
                refine wpAnyH_take (i := 9) (v := ?_) (by simp only [List.getElem?_toArray, List.getElem?_cons_succ, List.getElem?_cons_zero]; rfl) (by kernel_rfl) (by kernel_rfl) (by kernel_rfl) (by exact fun _ _ _ h => h) (Or.inl ⟨by rfl, ?_⟩) hHeld ?_
                rotate_left
                · intro w hSw; (try dsimp only at hSw); go_simp; (try with_reducible rfl)
                try simp only [Act.put, List.setIfInBounds_toArray, List.set_cons_zero, List.set_cons_succ]
                refine wpAnyH_take (i := 10) (v := ?_) (by simp only [List.getElem?_toArray, List.getElem?_cons_succ, List.getElem?_cons_zero]; rfl) (by kernel_rfl) (by kernel_rfl) (by kernel_rfl) (by exact fun _ _ _ h => h) (Or.inl ⟨by rfl, ?_⟩) hHeld ?_
                rotate_left
                · intro w hSw; (try dsimp only at hSw); go_simp; (try with_reducible rfl)
                try simp only [Act.put, List.setIfInBounds_toArray, List.set_cons_zero, List.set_cons_succ]
                refine wpAnyH_ready (rs := [5, 11]) (by kernel_rfl) (by simp) ?_
                refine AllReadyH.cons (by simp only [List.getElem?_toArray, List.getElem?_cons_succ, List.getElem?_cons_zero]; rfl) (fun kC hkC => ?_) (AllReadyH.cons (by simp only [List.getElem?_toArray, List.getElem?_cons_succ, List.getElem?_cons_zero]; rfl) (fun kC hkC => ?_) AllReadyH.nil)
                go_simp
                have n5 := NewC.make hR y'; have hR := hR.no ((Keeps.refl NoS _).alloc (.cells #[.int .i64 y'] 2)); (try have n11 := n11.no ((Keeps.refl NoS _).alloc (.cells #[.int .i64 y'] 2))); obtain ⟨b5, hb5⟩ : ∃ b, wq.heap.size = b := ⟨_, rfl⟩; rw [hb5] at n5 ⊢; clear hb5; generalize wq.alloc (.cells #[.int .i64 y'] 2) = wq at *
                refine hkC.out _ _ ?_ (fun hHeld => ?_)
                · exact (⟨hR.cy, hR.cf⟩)
                clear hkC kC
                try simp only [Act.put, List.setIfInBounds_toArray, List.set_cons_zero, List.set_cons_succ]
                refine wpAnyH_ready (rs := [6, 11]) (by kernel_rfl) (by simp) ?_
                refine AllReadyH.cons (by simp only [List.getElem?_toArray, List.getElem?_cons_succ, List.getElem?_cons_zero]; rfl) (fun kC hkC => ?_) (AllReadyH.cons (by simp only [List.getElem?_toArray, List.getElem?_cons_succ, List.getElem?_cons_zero]; rfl) (fun kC hkC => ?_) AllReadyH.nil)
                (refine step_row HI6.out _ (by rfl) (.tmp 88) (.tmp 93) (by rfl) (G + 2) u17 O (by rfl) hR.o ⟨b5, 0, none⟩ 1 1 [y'] (by rfl) rfl n5.news (by omega) hR.q.f.lt ?_; intro v6 wq hr6 hg6 hb6; (try have n11 := n11.app1 hg6 hb6); have hR := hR.app1 HA.out hr6 hg6 hb6; clear hr6 hg6 hb6)
                refine hkC.out _ _ ?_ (fun hHeld => ?_)
                · exact (⟨hR.cy, hR.cf⟩)
                clear hkC kC
                try simp only [Act.put, List.setIfInBounds_toArray, List.set_cons_zero, List.set_cons_succ]
                refine wpAnyH_ready (rs := [11]) (by kernel_rfl) (by simp) ?_
                refine AllReadyH.cons (by simp only [List.getElem?_toArray, List.getElem?_cons_succ, List.getElem?_cons_zero]; rfl) (fun kC hkC => ?_) AllReadyH.nil
                go_simp
                have n11 := NewC.make hR ft; have hR := hR.no ((Keeps.refl NoS _).alloc (.cells #[.int .i64 ft] 2)); (try have n5 := n5.no ((Keeps.refl NoS _).alloc (.cells #[.int .i64 ft] 2))); obtain ⟨b11, hb11⟩ : ∃ b, wq.heap.size = b := ⟨_, rfl⟩; rw [hb11] at n11 ⊢; clear hb11; generalize wq.alloc (.cells #[.int .i64 ft] 2) = wq at *
                refine hkC.out _ _ ?_ (fun hHeld => ?_)
                · exact (⟨hR.cy, hR.cf⟩)
                clear hkC kC
                try simp only [Act.put, List.setIfInBounds_toArray, List.set_cons_zero, List.set_cons_succ]
                refine wpAnyH_ready (rs := [12]) (by kernel_rfl) (by simp) ?_
                refine AllReadyH.cons (by simp only [List.getElem?_toArray, List.getElem?_cons_succ, List.getElem?_cons_zero]; rfl) (fun kC hkC => ?_) AllReadyH.nil
                (refine step_row HI6.out _ (by rfl) (.tmp 95) (.tmp 99) (by rfl) (G + 2) u18 Gl (by rfl) hR.g ⟨b11, 0, none⟩ 1 1 [ft] (by rfl) rfl n11.news (by omega) hR.q.f.lt ?_; intro v12 wq hr12 hg12 hb12; have hR := hR.app2 HA.out hr12 hg12 hb12; clear hr12 hg12 hb12)
                refine hkC.out _ _ ?_ (fun hHeld => ?_)
                · exact (⟨hR.cy, hR.cf⟩)
                clear hkC kC
                try simp only [Act.put, List.setIfInBounds_toArray, List.set_cons_zero, List.set_cons_succ]
                refine wpAnyH_take (i := 13) (v := ?_) (by simp only [List.getElem?_toArray, List.getElem?_cons_succ, List.getElem?_cons_zero]; rfl) (by kernel_rfl) (by kernel_rfl) (by kernel_rfl) (by exact fun _ _ _ h => h) (Or.inl ⟨by rfl, ?_⟩) hHeld ?_
                rotate_left
                · intro w hSw; (try dsimp only at hSw); go_simp; (try with_reducible rfl)
                try simp only [Act.put, List.setIfInBounds_toArray, List.set_cons_zero, List.set_cons_succ]
                refine wpAnyH_take (i := 14) (v := ?_) (by simp only [List.getElem?_toArray, List.getElem?_cons_succ, List.getElem?_cons_zero]; rfl) (by kernel_rfl) (by kernel_rfl) (by kernel_rfl) (by exact fun _ _ _ h => h) (Or.inl ⟨by rfl, ?_⟩) hHeld ?_
                rotate_left
                · intro w hSw; (try dsimp only at hSw); go_simp; (try with_reducible rfl)
                try simp only [Act.put, List.setIfInBounds_toArray, List.set_cons_zero, List.set_cons_succ]
                refine wpAnyH_done (by kernel_rfl) ?_ _
                rotate_left
                go_simp
                have n11 := NewC.make hR ft; have hR := hR.no ((Keeps.refl NoS _).alloc (.cells #[.int .i64 ft] 2)); (try have n5 := n5.no ((Keeps.refl NoS _).alloc (.cells #[.int .i64 ft] 2))); obtain ⟨b11, hb11⟩ : ∃ b, wq.heap.size = b := ⟨_, rfl⟩; rw [hb11] at n11 ⊢; clear hb11; generalize wq.alloc (.cells #[.int .i64 ft] 2) = wq at *
                refine hkC.out _ _ ?_ (fun hHeld => ?_)
                · exact (⟨hR.cy, hR.cf⟩)
                clear hkC kC
                try simp only [Act.put, List.setIfInBounds_toArray, List.set_cons_zero, List.set_cons_succ]
                refine wpAnyH_ready (rs := [6]) (by kernel_rfl) (by simp) ?_
                refine AllReadyH.cons (by simp only [List.getElem?_toArray, List.getElem?_cons_succ, List.getElem?_cons_zero]; rfl) (fun kC hkC => ?_) AllReadyH.nil
                (refine step_row HI6.out _ (by rfl) (.tmp 88) (.tmp 93) (by rfl) (G + 2) u17 O (by rfl) hR.o ⟨b5, 0, none⟩ 1 1 [y'] (by rfl) rfl n5.news (by omega) hR.q.f.lt ?_; intro v6 wq hr6 hg6 hb6; (try have n11 := n11.app1 hg6 hb6); have hR := hR.app1 HA.out hr6 hg6 hb6; clear hr6 hg6 hb6)
                refine hkC.out _ _ ?_ (fun hHeld => ?_)
                · exact (⟨hR.cy, hR.cf⟩)
                clear hkC kC
                try simp only [Act.put, List.setIfInBounds_toArray, List.set_cons_zero, List.set_cons_succ]
                refine wpAnyH_ready (rs := [12]) (by kernel_rfl) (by simp) ?_
                refine AllReadyH.cons (by simp only [List.getElem?_toArray, List.getElem?_cons_succ, List.getElem?_cons_zero]; rfl) (fun kC hkC => ?_) AllReadyH.nil
                (refine step_row HI6.out _ (by rfl) (.tmp 95) (.tmp 99) (by rfl) (G + 2) u18 Gl (by rfl) hR.g ⟨b11, 0, none⟩ 1 1 [ft] (by rfl) rfl n11.news (by omega) hR.q.f.lt ?_; intro v12 wq hr12 hg12 hb12; have hR := hR.app2 HA.out hr12 hg12 hb12; clear hr12 hg12 hb12)
                refine hkC.out _ _ ?_ (fun hHeld => ?_)
                · exact (⟨hR.cy, hR.cf⟩)
                clear hkC kC
                try simp only [Act.put, List.setIfInBounds_toArray, List.set_cons_zero, List.set_cons_succ]
                refine wpAnyH_take (i := 13) (v := ?_) (by simp only [List.getElem?_toArray, List.getElem?_cons_succ, List.getElem?_cons_zero]; rfl) (by kernel_rfl) (by kernel_rfl) (by kernel_rfl) (by exact fun _ _ _ h => h) (Or.inl ⟨by rfl, ?_⟩) hHeld ?_
                rotate_left
                · intro w hSw; (try dsimp only at hSw); go_simp; (try with_reducible rfl)
                try simp only [Act.put, List.setIfInBounds_toArray, List.set_cons_zero, List.set_cons_succ]
                refine wpAnyH_take (i := 14) (v := ?_) (by simp only [List.getElem?_toArray, List.getElem?_cons_succ, List.getElem?_cons_zero]; rfl) (by kernel_rfl) (by kernel_rfl) (by kernel_rfl) (by exact fun _ _ _ h => h) (Or.inl ⟨by rfl, ?_⟩) hHeld ?_
                rotate_left
                · intro w hSw; (try dsimp only at hSw); go_simp; (try with_reducible rfl)
                try simp only [Act.put, List.setIfInBounds_toArray, List.set_cons_zero, List.set_cons_succ]
                refine wpAnyH_done (by kernel_rfl) ?_ _
                rotate_left
                go_simp
                have n11 := NewC.make hR ft; have hR := hR.no ((Keeps.refl NoS _).alloc (.cells #[.int .i64 ft] 2)); (try have n5 := n5.no ((Keeps.refl NoS _).alloc (.cells #[.int .i64 ft] 2))); obtain ⟨b11, hb11⟩ : ∃ b, wq.heap.size = b := ⟨_, rfl⟩; rw [hb11] at n11 ⊢; clear hb11; generalize wq.alloc (.cells #[.int .i64 ft] 2) = wq at *
                refine hkC.out _ _ ?_ (fun hHeld => ?_)
                · exact (⟨hR.cy, hR.cf⟩)
                clear hkC kC
                try simp only [Act.put, List.setIfInBounds_toArray, List.set_cons_zero, List.set_cons_succ]
                refine wpAnyH_ready (rs := [5]) (by kernel_rfl) (by simp) ?_
                refine AllReadyH.cons (by simp only [List.getElem?_toArray, List.getElem?_cons_succ, List.getElem?_cons_zero]; rfl) (fun kC hkC => ?_) AllReadyH.nil
                go_simp
                have n5 := NewC.make hR y'; have hR := hR.no ((Keeps.refl NoS _).alloc (.cells #[.int .i64 y'] 2)); (try have n11 := n11.no ((Keeps.refl NoS _).alloc (.cells #[.int .i64 y'] 2))); obtain ⟨b5, hb5⟩ : ∃ b, wq.heap.size = b := ⟨_, rfl⟩; rw [hb5] at n5 ⊢; clear hb5; generalize wq.alloc (.cells #[.int .i64 y'] 2) = wq at *
                refine hkC.out _ _ ?_ (fun hHeld => ?_)
                · exact (⟨hR.cy, hR.cf⟩)
                clear hkC kC
                try simp only [Act.put, List.setIfInBounds_toArray, List.set_cons_zero, List.set_cons_succ]
                refine wpAnyH_ready (rs := [6]) (by kernel_rfl) (by simp) ?_
                refine AllReadyH.cons (by simp only [List.getElem?_toArray, List.getElem?_cons_succ, List.getElem?_cons_zero]; rfl) (fun kC hkC => ?_) AllReadyH.nil
                (refine step_row HI6.out _ (by rfl) (.tmp 88) (.tmp 93) (by rfl) (G + 2) u17 O (by rfl) hR.o ⟨b5, 0, none⟩ 1 1 [y'] (by rfl) rfl n5.news (by omega) hR.q.f.lt ?_; intro v6 wq hr6 hg6 hb6; (try have n11 := n11.app1 hg6 hb6); have hR := hR.app1 HA.out hr6 hg6 hb6; clear hr6 hg6 hb6)
                refine hkC.out _ _ ?_ (fun hHeld => ?_)
                · exact (⟨hR.cy, hR.cf⟩)
                clear hkC kC
                try simp only [Act.put, List.setIfInBounds_toArray, List.set_cons_zero, List.set_cons_succ]
                refine wpAnyH_ready (rs := [12]) (by kernel_rfl) (by simp) ?_
                refine AllReadyH.cons (by simp only [List.getElem?_toArray, List.getElem?_cons_succ, List.getElem?_cons_zero]; rfl) (fun kC hkC => ?_) AllReadyH.nil
                (refine step_row HI6.out _ (by rfl) (.tmp 95) (.tmp 99) (by rfl) (G + 2) u18 Gl (by rfl) hR.g ⟨b11, 0, none⟩ 1 1 [ft] (by rfl) rfl n11.news (by omega) hR.q.f.lt ?_; intro v12 wq hr12 hg12 hb12; have hR := hR.app2 HA.out hr12 hg12 hb12; clear hr12 hg12 hb12)
                refine hkC.out _ _ ?_ (fun hHeld => ?_)
                · exact (⟨hR.cy, hR.cf⟩)
                clear hkC kC
                try simp only [Act.put, List.setIfInBounds_toArray, List.set_cons_zero, List.set_cons_succ]
                refine wpAnyH_take (i := 13) (v := ?_) (by simp only [List.getElem?_toArray, List.getElem?_cons_succ, List.getElem?_cons_zero]; rfl) (by kernel_rfl) (by kernel_rfl) (by kernel_rfl) (by exact fun _ _ _ h => h) (Or.inl ⟨by rfl, ?_⟩) hHeld ?_
                rotate_left
                · intro w hSw; (try dsimp only at hSw); go_simp; (try with_reducible rfl)
                try simp only [Act.put, List.setIfInBounds_toArray, List.set_cons_zero, List.set_cons_succ]
                refine wpAnyH_take (i := 14) (v := ?_) (by simp only [List.getElem?_toArray, List.getElem?_cons_succ, List.getElem?_cons_zero]; rfl) (by kernel_rfl) (by kernel_rfl) (by kernel_rfl) (by exact fun _ _ _ h => h) (Or.inl ⟨by rfl, ?_⟩) hHeld ?_
                rotate_left
                · intro w hSw; (try dsimp only at hSw); go_simp; (try with_reducible rfl)
                try simp only [Act.put, List.setIfInBounds_toArray, List.set_cons_zero, List.set_cons_succ]
                refine wpAnyH_done (by kernel_rfl) ?_ _
                rotate_left
                all_goals
                  have HR := Lib.hid hR
                  clear hR n11
                  go_wp2_with (go_at_call 37; refine (HSA.out _).mono ?_; rintro e w9 ⟨rfl, hk9⟩; have hR9 := HR.out.no hk9; obtain ⟨x0, x1, x2, x3⟩ := hR9.q.b.cell ht3 (upd_at _ _ _); have f0 := hR9.q.b.free (t * 4); have f1' := hR9.q.b.free (t * 4 + 1); have f2 := hR9.q.b.free (t * 4 + 2); have f3 := hR9.q.b.free (t * 4 + 3); have fl := hR9.q.b.lt; have hY := hR9.setB HA.out ht3 ⟨3, 0, 0, 0⟩; unfold setBp at hY; dsimp only at hY; have HY := Lib.hid hY; clear hR9 hY)
                  go_roundw
                  case rel => exact ⟨n + 1, ⟨M', upd b t ⟨3, 0, 0, 0⟩, f1, O ++ [y'], Gl ++ [ft]⟩, by omega, by go_num, HSL.out, HY.out.1, HY.out.2.1, HY.out.2.2.1, by simp; omega, HY.out.2.2.2⟩
                  case measure => simp [intOf]; omega
              · have hsl := hsl.2 h9
                have hst1 : M'.st = (n : Int) + 1 := hsl.st
                have HST1 := Lib.hid hst1; have HSL := Lib.hid hsl
                clear hsl hst1
                go_wp2_with (go_at_call 26; refine (steps_any a v M' _ HQ.out.t.s.m).mono ?_; rw [HST1.out]; rintro e w8 ⟨rfl, rfl⟩)
                go_roundw
                case rel => exact ⟨n + 1, _, by omega, by go_num, HSL.out, HQ.out, HO7.out, HG7.out, by dsimp only; omega, HGB.out⟩
                case measure => simp [intOf]; omega
            · obtain ⟨x0, x1, x2, x3⟩ := HU.out.b.cell ht3 hb
              have hsl := CI.stepAt (k := 3) (by first | decide | exact HKK.out) (show n < 1000 by omega) HC.out ht3 hb (F := fr) (if_neg (by simp))
              have HSL := Lib.hid hsl; have HB := Lib.hid hb; have HU1 := HU; have HO1 := HO; have HG1 := HG
              clear hsl hb fc ff hfl HU HO HG
              clear hf0 hf1
              generalize fr = f1 at *
              go_upto_region 21 with fail
              obtain ⟨wz, hwz⟩ : ∃ wz, wr = wz := ⟨_, rfl⟩
              subst hwz
              clear x0 x1 x2 x3 cn
              generalize hf1t : f1 t = ft at *
              have HFT := Lib.hid hf1t
              clear hf1t
              obtain ⟨M', h', hd⟩ : ∃ M' h', stepB ⟨2, 2, 4, 0, 2⟩ M ⟨3, 1, ft, 0⟩ = (M', h') := ⟨_, _, rfl⟩
              obtain ⟨k', s', x', y'⟩ := h'
              have hsl := HSL.out M' k' s' x' y' hd
              have HD := Lib.hid hd
              clear hd HSL
              obtain ⟨m0, m1, m2, m3, m4⟩ := HBm.out _ HU1.out.t.s.kp
              have hbd := HU1.out.no ((Keeps.refl NoS _).drew)
              have hOd := HO1.out.no ((Keeps.refl NoS _).drew)
              have hGd := HG1.out.no ((Keeps.refl NoS _).drew)
              go_upto_region 22 with (go_at_call 26; refine (steps_any a v M _ HU1.out.t.s.m).mono ?_; rw [HNST.out]; rintro e w6 ⟨rfl, rfl⟩)
              obtain ⟨x0, x1, x2, x3⟩ := HU1.out.b.cell ht3 HB.out
              refine wp_region_kept_drew 8 (fun w' => (w'.cell? ⟨G, t * 4, none⟩ = some (.int .i64 3) ∧ w'.cell? ⟨G, t * 4 + 1, none⟩ = some (.int .i64 1) ∧ w'.cell? ⟨G, t * 4 + 2, none⟩ = some (.int .i64 ft) ∧ w'.cell? ⟨G, t * 4 + 3, none⟩ = some (.int .i64 0)) ∧ (w'.cell? ⟨B, 0, none⟩ = some (.int .i64 2) ∧ w'.cell? ⟨B, 1, none⟩ = some (.int .i64 2) ∧ w'.cell? ⟨B, 2, none⟩ = some (.int .i64 4) ∧ w'.cell? ⟨B, 3, none⟩ = some (.int .i64 0) ∧ w'.cell? ⟨B, 4, none⟩ = some (.int .i64 2))) 8 (fun _ => True) (by kernel_rfl) (⟨⟨x0, x1, x2, x3⟩, ⟨m0, m1, m2, m3, m4⟩⟩) (trivial) (fun hK => ?_)
              refine wpAnyK_take1 (i := 0) (v := ?_) (by simp only [List.getElem?_toArray, List.getElem?_cons_succ, List.getElem?_cons_zero]; rfl) (by kernel_rfl) (by kernel_rfl) (by kernel_rfl) (by kernel_rfl) (by kernel_rfl) (by kernel_rfl) (by exact fun _ _ _ h => h) (Or.inl ⟨by rfl, ?_⟩) (hK _) ?_
              rotate_left
              · intro w hSw; (try dsimp only at hSw); go_simp; (try with_reducible rfl)
              try simp only [Act.put, List.setIfInBounds_toArray, List.set_cons_zero, List.set_cons_succ]
              refine wpAnyK_take1 (i := 1) (v := ?_) (by simp only [List.getElem?_toArray, List.getElem?_cons_succ, List.getElem?_cons_zero]; rfl) (by kernel_rfl) (by kernel_rfl) (by kernel_rfl) (by kernel_rfl) (by kernel_rfl) (by kernel_rfl) (by exact fun _ _ _ h => h) (Or.inl ⟨by rfl, ?_⟩) (hK _) ?_
              rotate_left
              · intro w hSw; (try dsimp only at hSw); go_simp; (try with_reducible rfl)
              try simp only [Act.put, List.setIfInBounds_toArray, List.set_cons_zero, List.set_cons_succ]
              refine wpAnyK_take1 (i := 2) (v := ?_) (by simp only [List.getElem?_toArray, List.getElem?_cons_succ, List.getElem?_cons_zero]; rfl) (by kernel_rfl) (by kernel_rfl) (by kernel_rfl) (by kernel_rfl) (by kernel_rfl) (by kernel_rfl) (by exact fun _ _ _ h => h) (Or.inl ⟨by rfl, ?_⟩) (hK _) ?_
              rotate_left
              · intro w hSw; (try dsimp only at hSw); go_simp; (try with_reducible rfl)
              try simp only [Act.put, List.setIfInBounds_toArray, List.set_cons_zero, List.set_cons_succ]
              refine wpAnyK_take1 (i := 3) (v := ?_) (by simp only [List.getElem?_toArray, List.getElem?_cons_succ, List.getElem?_cons_zero]; rfl) (by kernel_rfl) (by kernel_rfl) (by kernel_rfl) (by kernel_rfl) (by kernel_rfl) (by kernel_rfl) (by exact fun _ _ _ h => h) (Or.inl ⟨by rfl, ?_⟩) (hK _) ?_
              rotate_left
              · intro w hSw; (try dsimp only at hSw); go_simp; (try with_reducible rfl)
              try simp only [Act.put, List.setIfInBounds_toArray, List.set_cons_zero, List.set_cons_succ]
              refine wpAnyK_take1 (i := 4) (v := ?_) (by simp only [List.getElem?_toArray, List.getElem?_cons_succ, List.getElem?_cons_zero]; rfl) (by kernel_rfl) (by kernel_rfl) (by kernel_rfl) (by kernel_rfl) (by kernel_rfl) (by kernel_rfl) (by exact fun _ _ _ h => h) (Or.inl ⟨by rfl, ?_⟩) (hK _) ?_
              rotate_left
              · intro w hSw; (try dsimp only at hSw); go_simp; (try with_reducible rfl)
              try simp only [Act.put, List.setIfInBounds_toArray, List.set_cons_zero, List.set_cons_succ]
              refine wpAnyK_take1 (i := 5) (v := ?_) (by simp only [List.getElem?_toArray, List.getElem?_cons_succ, List.getElem?_cons_zero]; rfl) (by kernel_rfl) (by kernel_rfl) (by kernel_rfl) (by kernel_rfl) (by kernel_rfl) (by kernel_rfl) (by exact fun _ _ _ h => h) (Or.inl ⟨by rfl, ?_⟩) (hK _) ?_
              rotate_left
              · intro w hSw; (try dsimp only at hSw); go_simp; (try with_reducible rfl)
              try simp only [Act.put, List.setIfInBounds_toArray, List.set_cons_zero, List.set_cons_succ]
              refine wpAnyK_one (i := 6) (by kernel_rfl) (by simp only [List.getElem?_toArray, List.getElem?_cons_succ, List.getElem?_cons_zero]; rfl) (fun kC hkC => ?_)
              go_simp
              refine (step_any 2 2 4 0 2 3 1 ft 0 a v M _ hbd.t.s.m).mono ?_; rw [HD.out]; unfold bumpV; dsimp only; rintro e w7 ⟨rfl, hm, hk⟩; have hX7 := hbd.own HA.out hm hk; have hO7 := hOd.ownA HA.out (by omega) hk; have hG7 := hGd.ownA HA.out (by omega) hk; have m7 := HBm.out _ hX7.t.s.kp; have c7 := hX7.b.cell ht3 HB.out; have F0 := hX7.b.free (t * 4); have F1 := hX7.b.free (t * 4 + 1); have F2 := hX7.b.free (t * 4 + 2); have F3 := hX7.b.free (t * 4 + 3); have hl7 := hX7.b.lt; have hQ7 := hX7.setB HA.out t ht3 ⟨k', s', x', y'⟩; have hO8 := hO7.setB t ⟨k', s', x', y'⟩; have hG8 := hG7.setB t ⟨k', s', x', y'⟩; unfold setBp at hQ7 hO8 hG8; dsimp only at hQ7 hO8 hG8; have HQ := Lib.hid hQ7; have HO7 := Lib.hid hO8; have HG7 := Lib.hid hG8; clear hQ7 hO8 hG8 hm hX7 hO7 hG7
              (try go_wp2_with fail)
              refine hkC.out _ _ (⟨c7, m7⟩) (trivial) (fun hK => ?_)
              clear hkC kC
              try simp only [Act.put, List.setIfInBounds_toArray, List.set_cons_zero, List.set_cons_succ]
              refine wpAnyK_take1 (i := 7) (v := ?_) (by simp only [List.getElem?_toArray, List.getElem?_cons_succ, List.getElem?_cons_zero]; rfl) (by kernel_rfl) (by kernel_rfl) (by kernel_rfl) (by kernel_rfl) (by kernel_rfl) (by kernel_rfl) (by exact fun _ _ _ h => h) (Or.inl ⟨by rfl, ?_⟩) (hK _) ?_
              rotate_left
              · intro w hSw; (try dsimp only at hSw); go_simp; (try with_reducible rfl)
              try simp only [Act.put, List.setIfInBounds_toArray, List.set_cons_zero, List.set_cons_succ]
              refine wpAnyK_last (i := 8) (by kernel_rfl) (by simp only [List.getElem?_toArray, List.getElem?_cons_succ, List.getElem?_cons_zero]; rfl) (by kernel_rfl) (by kernel_rfl) (fun kC hkC => ?_)
              go_simp
              refine hkC.out _ _ ?_
              clear hkC kC
              try simp only [Act.put, List.setIfInBounds_toArray, List.set_cons_zero, List.set_cons_succ]
              refine wpAnyK_done (by kernel_rfl) ?_ _
              generalize (((w7.setCell ⟨G, t * 4, none⟩ (.int .i64 k')).setCell ⟨G, t * 4 + 1, none⟩ (.int .i64 s')).setCell ⟨G, t * 4 + 2, none⟩ (.int .i64 x')).setCell ⟨G, t * 4 + 3, none⟩ (.int .i64 y') = wy at *
              clear c7 F0 F1 F2 F3 hl7 x0 x1 x2 x3 m0 m1 m2 m3 m4 hbd hOd hGd m7 hk HU1 HO1 HG1 HD
              obtain ⟨x0, x1, x2, x3⟩ := HQ.out.b.cell ht3 (upd_at _ _ _)
              have hfc := HQ.out.f.cell t ht3
              dsimp only at hfc
              rw [HFT.out] at hfc
              by_cases h9 : s' = 9
              · subst h9
                have hsl := hsl.1 rfl
                have hst1 : M'.st = (n : Int) + 1 := hsl.st
                have HST1 := Lib.hid hst1; have HSL := Lib.hid hsl
                clear hsl hst1
                go_upto_region 26 with (go_at_call 26; refine (steps_any a v M' _ HQ.out.t.s.m).mono ?_; rw [HST1.out]; rintro e w8 ⟨rfl, rfl⟩)
                have hR : R26 W wy.drew a c v u G ⟨M', upd b t ⟨k', 9, x', y'⟩, f1, O, Gl⟩ u17 u18 O Gl t y' ft := ⟨HQ.out.no ((Keeps.refl NoS _).drew), HO7.out.no ((Keeps.refl NoS _).drew), HG7.out.no ((Keeps.refl NoS _).drew), HGB.out, x3, hfc⟩
                clear x0 x1 x2 x3 hfc HQ HO7 HG7
                refine wp_region_held_drew (S := (fun w' => w'.cell? ⟨G, t * 4 + 3, none⟩ = some (.int .i64 y') ∧ w'.cell? ⟨G + 1, t, none⟩ = some (.int .i64 ft))) (by kernel_rfl) (⟨hR.cy, hR.cf⟩) (fun hHeld => ?_)
                generalize wy.drew = wq at *
                refine wpAnyH_take (i := 0) (v := ?_) (by simp only [List.getElem?_toArray, List.getElem?_cons_succ, List.getElem?_cons_zero]; rfl) (by kernel_rfl) (by kernel_rfl) (by kernel_rfl) (by exact fun _ _ _ h => h) (Or.inl ⟨by rfl, ?_⟩) hHeld ?_
                rotate_left
                · intro w hSw; (try dsimp only at hSw); go_simp; (try with_reducible rfl)
                try simp only [Act.put, List.setIfInBounds_toArray, List.set_cons_zero, List.set_cons_succ]
                refine wpAnyH_take (i := 1) (v := ?_) (by simp only [List.getElem?_toArray, List.getElem?_cons_succ, List.getElem?_cons_zero]; rfl) (by kernel_rfl) (by kernel_rfl) (by kernel_rfl) (by exact fun _ _ _ h => h) (Or.inl ⟨by rfl, ?_⟩) hHeld ?_
                rotate_left
                · intro w hSw; (try dsimp only at hSw); go_simp; (try with_reducible rfl)
                try simp only [Act.put, List.setIfInBounds_toArray, List.set_cons_zero, List.set_cons_succ]
                refine wpAnyH_take (i := 2) (v := ?_) (by simp only [List.getElem?_toArray, List.getElem?_cons_succ, List.getElem?_cons_zero]; rfl) (by kernel_rfl) (by kernel_rfl) (by kernel_rfl) (by exact fun _ _ _ h => h) (Or.inl ⟨by rfl, ?_⟩) hHeld ?_
                rotate_left
                · intro w hSw; (try dsimp only at hSw); go_simp; (try with_reducible rfl)
                try simp only [Act.put, List.setIfInBounds_toArray, List.set_cons_zero, List.set_cons_succ]
                refine wpAnyH_take (i := 3) (v := ?_) (by simp only [List.getElem?_toArray, List.getElem?_cons_succ, List.getElem?_cons_zero]; rfl) (by kernel_rfl) (by kernel_rfl) (by kernel_rfl) (by exact fun _ _ _ h => h) (Or.inl ⟨by rfl, ?_⟩) hHeld ?_
                rotate_left
                · intro w hSw; (try dsimp only at hSw); go_simp; (try with_reducible rfl)
                try simp only [Act.put, List.setIfInBounds_toArray, List.set_cons_zero, List.set_cons_succ]
                refine wpAnyH_take (i := 4) (v := ?_) (by simp only [List.getElem?_toArray, List.getElem?_cons_succ, List.getElem?_cons_zero]; rfl) (by kernel_rfl) (by kernel_rfl) (by kernel_rfl) (by exact fun _ _ _ h => h) (Or.inl ⟨by rfl, ?_⟩) hHeld ?_
                rotate_left
                · intro w hSw; (try dsimp only at hSw); go_simp; (try with_reducible rfl)
                try simp only [Act.put, List.setIfInBounds_toArray, List.set_cons_zero, List.set_cons_succ]
                refine wpAnyH_take (i := 7) (v := ?_) (by simp only [List.getElem?_toArray, List.getElem?_cons_succ, List.getElem?_cons_zero]; rfl) (by kernel_rfl) (by kernel_rfl) (by kernel_rfl) (by exact fun _ _ _ h => h) (Or.inl ⟨by rfl, ?_⟩) hHeld ?_
                rotate_left
                · intro w hSw; (try dsimp only at hSw); go_simp; (try with_reducible rfl)
                try simp only [Act.put, List.setIfInBounds_toArray, List.set_cons_zero, List.set_cons_succ]
                refine wpAnyH_take (i := 8) (v := ?_) (by simp only [List.getElem?_toArray, List.getElem?_cons_succ, List.getElem?_cons_zero]; rfl) (by kernel_rfl) (by kernel_rfl) (by kernel_rfl) (by exact fun _ _ _ h => h) (Or.inl ⟨by rfl, ?_⟩) hHeld ?_
                rotate_left
                · intro w hSw; (try dsimp only at hSw); go_simp; (try with_reducible rfl)
                try simp only [Act.put, List.setIfInBounds_toArray, List.set_cons_zero, List.set_cons_succ]
                refine wpAnyH_take (i := 9) (v := ?_) (by simp only [List.getElem?_toArray, List.getElem?_cons_succ, List.getElem?_cons_zero]; rfl) (by kernel_rfl) (by kernel_rfl) (by kernel_rfl) (by exact fun _ _ _ h => h) (Or.inl ⟨by rfl, ?_⟩) hHeld ?_
                rotate_left
                · intro w hSw; (try dsimp only at hSw); go_simp; (try with_reducible rfl)
                try simp only [Act.put, List.setIfInBounds_toArray, List.set_cons_zero, List.set_cons_succ]
                refine wpAnyH_take (i := 10) (v := ?_) (by simp only [List.getElem?_toArray, List.getElem?_cons_succ, List.getElem?_cons_zero]; rfl) (by kernel_rfl) (by kernel_rfl) (by kernel_rfl) (by exact fun _ _ _ h => h) (Or.inl ⟨by rfl, ?_⟩) hHeld ?_
                rotate_left
                · intro w hSw; (try dsimp only at hSw); go_simp; (try with_reducible rfl)
                try simp only [Act.put, List.setIfInBounds_toArray, List.set_cons_zero, List.set_cons_succ]
                refine wpAnyH_ready (rs := [5, 11]) (by kernel_rfl) (by simp) ?_
                refine AllReadyH.cons (by simp only [List.getElem?_toArray, List.getElem?_cons_succ, List.getElem?_cons_zero]; rfl) (fun kC hkC => ?_) (AllReadyH.cons (by simp only [List.getElem?_toArray, List.getElem?_cons_succ, List.getElem?_cons_zero]; rfl) (fun kC hkC => ?_) AllReadyH.nil)
                go_simp
                have n5 := NewC.make hR y'; have hR := hR.no ((Keeps.refl NoS _).alloc (.cells #[.int .i64 y'] 2)); (try have n11 := n11.no ((Keeps.refl NoS _).alloc (.cells #[.int .i64 y'] 2))); obtain ⟨b5, hb5⟩ : ∃ b, wq.heap.size = b := ⟨_, rfl⟩; rw [hb5] at n5 ⊢; clear hb5; generalize wq.alloc (.cells #[.int .i64 y'] 2) = wq at *
                refine hkC.out _ _ ?_ (fun hHeld => ?_)
                · exact (⟨hR.cy, hR.cf⟩)
                clear hkC kC
                try simp only [Act.put, List.setIfInBounds_toArray, List.set_cons_zero, List.set_cons_succ]
                refine wpAnyH_ready (rs := [6, 11]) (by kernel_rfl) (by simp) ?_
                refine AllReadyH.cons (by simp only [List.getElem?_toArray, List.getElem?_cons_succ, List.getElem?_cons_zero]; rfl) (fun kC hkC => ?_) (AllReadyH.cons (by simp only [List.getElem?_toArray, List.getElem?_cons_succ, List.getElem?_cons_zero]; rfl) (fun kC hkC => ?_) AllReadyH.nil)
                (refine step_row HI6.out _ (by rfl) (.tmp 88) (.tmp 93) (by rfl) (G + 2) u17 O (by rfl) hR.o ⟨b5, 0, none⟩ 1 1 [y'] (by rfl) rfl n5.news (by omega) hR.q.f.lt ?_; intro v6 wq hr6 hg6 hb6; (try have n11 := n11.app1 hg6 hb6); have hR := hR.app1 HA.out hr6 hg6 hb6; clear hr6 hg6 hb6)
                refine hkC.out _ _ ?_ (fun hHeld => ?_)
                · exact (⟨hR.cy, hR.cf⟩)
                clear hkC kC
                try simp only [Act.put, List.setIfInBounds_toArray, List.set_cons_zero, List.set_cons_succ]
                refine wpAnyH_ready (rs := [11]) (by kernel_rfl) (by simp) ?_
                refine AllReadyH.cons (by simp only [List.getElem?_toArray, List.getElem?_cons_succ, List.getElem?_cons_zero]; rfl) (fun kC hkC => ?_) AllReadyH.nil
                go_simp
                have n11 := NewC.make hR ft; have hR := hR.no ((Keeps.refl NoS _).alloc (.cells #[.int .i64 ft] 2)); (try have n5 := n5.no ((Keeps.refl NoS _).alloc (.cells #[.int .i64 ft] 2))); obtain ⟨b11, hb11⟩ : ∃ b, wq.heap.size = b := ⟨_, rfl⟩; rw [hb11] at n11 ⊢; clear hb11; generalize wq.alloc (.cells #[.int .i64 ft] 2) = wq at *
                refine hkC.out _ _ ?_ (fun hHeld => ?_)
                · exact (⟨hR.cy, hR.cf⟩)
                clear hkC kC
                try simp only [Act.put, List.setIfInBounds_toArray, List.set_cons_zero, List.set_cons_succ]
                refine wpAnyH_ready (rs := [12]) (by kernel_rfl) (by simp) ?_
                refine AllReadyH.cons (by simp only [List.getElem?_toArray, List.getElem?_cons_succ, List.getElem?_cons_zero]; rfl) (fun kC hkC => ?_) AllReadyH.nil
                (refine step_row HI6.out _ (by rfl) (.tmp 95) (.tmp 99) (by rfl) (G + 2) u18 Gl (by rfl) hR.g ⟨b11, 0, none⟩ 1 1 [ft] (by rfl) rfl n11.news (by omega) hR.q.f.lt ?_; intro v12 wq hr12 hg12 hb12; have hR := hR.app2 HA.out hr12 hg12 hb12; clear hr12 hg12 hb12)
                refine hkC.out _ _ ?_ (fun hHeld => ?_)
                · exact (⟨hR.cy, hR.cf⟩)
                clear hkC kC
                try simp only [Act.put, List.setIfInBounds_toArray, List.set_cons_zero, List.set_cons_succ]
                refine wpAnyH_take (i := 13) (v := ?_) (by simp only [List.getElem?_toArray, List.getElem?_cons_succ, List.getElem?_cons_zero]; rfl) (by kernel_rfl) (by kernel_rfl) (by kernel_rfl) (by exact fun _ _ _ h => h) (Or.inl ⟨by rfl, ?_⟩) hHeld ?_
                rotate_left
                · intro w hSw; (try dsimp only at hSw); go_simp; (try with_reducible rfl)
                try simp only [Act.put, List.setIfInBounds_toArray, List.set_cons_zero, List.set_cons_succ]
                refine wpAnyH_take (i := 14) (v := ?_) (by simp only [List.getElem?_toArray, List.getElem?_cons_succ, List.getElem?_cons_zero]; rfl) (by kernel_rfl) (by kernel_rfl) (by kernel_rfl) (by exact fun _ _ _ h => h) (Or.inl ⟨by rfl, ?_⟩) hHeld ?_
                rotate_left
                · intro w hSw; (try dsimp only at hSw); go_simp; (try with_reducible rfl)
                try simp only [Act.put, List.setIfInBounds_toArray, List.set_cons_zero, List.set_cons_succ]
                refine wpAnyH_done (by kernel_rfl) ?_ _
                rotate_left
                go_simp
                have n11 := NewC.make hR ft; have hR := hR.no ((Keeps.refl NoS _).alloc (.cells #[.int .i64 ft] 2)); (try have n5 := n5.no ((Keeps.refl NoS _).alloc (.cells #[.int .i64 ft] 2))); obtain ⟨b11, hb11⟩ : ∃ b, wq.heap.size = b := ⟨_, rfl⟩; rw [hb11] at n11 ⊢; clear hb11; generalize wq.alloc (.cells #[.int .i64 ft] 2) = wq at *
                refine hkC.out _ _ ?_ (fun hHeld => ?_)
                · exact (⟨hR.cy, hR.cf⟩)
                clear hkC kC
                try simp only [Act.put, List.setIfInBounds_toArray, List.set_cons_zero, List.set_cons_succ]
                refine wpAnyH_ready (rs := [6]) (by kernel_rfl) (by simp) ?_
                refine AllReadyH.cons (by simp only [List.getElem?_toArray, List.getElem?_cons_succ, List.getElem?_cons_zero]; rfl) (fun kC hkC => ?_) AllReadyH.nil
                (refine step_row HI6.out _ (by rfl) (.tmp 88) (.tmp 93) (by rfl) (G + 2) u17 O (by rfl) hR.o ⟨b5, 0, none⟩ 1 1 [y'] (by rfl) rfl n5.news (by omega) hR.q.f.lt ?_; intro v6 wq hr6 hg6 hb6; (try have n11 := n11.app1 hg6 hb6); have hR := hR.app1 HA.out hr6 hg6 hb6; clear hr6 hg6 hb6)
                refine hkC.out _ _ ?_ (fun hHeld => ?_)
                · exact (⟨hR.cy, hR.cf⟩)
                clear hkC kC
                try simp only [Act.put, List.setIfInBounds_toArray, List.set_cons_zero, List.set_cons_succ]
                refine wpAnyH_ready (rs := [12]) (by kernel_rfl) (by simp) ?_
                refine AllReadyH.cons (by simp only [List.getElem?_toArray, List.getElem?_cons_succ, List.getElem?_cons_zero]; rfl) (fun kC hkC => ?_) AllReadyH.nil
                (refine step_row HI6.out _ (by rfl) (.tmp 95) (.tmp 99) (by rfl) (G + 2) u18 Gl (by rfl) hR.g ⟨b11, 0, none⟩ 1 1 [ft] (by rfl) rfl n11.news (by omega) hR.q.f.lt ?_; intro v12 wq hr12 hg12 hb12; have hR := hR.app2 HA.out hr12 hg12 hb12; clear hr12 hg12 hb12)
                refine hkC.out _ _ ?_ (fun hHeld => ?_)
                · exact (⟨hR.cy, hR.cf⟩)
                clear hkC kC
                try simp only [Act.put, List.setIfInBounds_toArray, List.set_cons_zero, List.set_cons_succ]
                refine wpAnyH_take (i := 13) (v := ?_) (by simp only [List.getElem?_toArray, List.getElem?_cons_succ, List.getElem?_cons_zero]; rfl) (by kernel_rfl) (by kernel_rfl) (by kernel_rfl) (by exact fun _ _ _ h => h) (Or.inl ⟨by rfl, ?_⟩) hHeld ?_
                rotate_left
                · intro w hSw; (try dsimp only at hSw); go_simp; (try with_reducible rfl)
                try simp only [Act.put, List.setIfInBounds_toArray, List.set_cons_zero, List.set_cons_succ]
                refine wpAnyH_take (i := 14) (v := ?_) (by simp only [List.getElem?_toArray, List.getElem?_cons_succ, List.getElem?_cons_zero]; rfl) (by kernel_rfl) (by kernel_rfl) (by kernel_rfl) (by exact fun _ _ _ h => h) (Or.inl ⟨by rfl, ?_⟩) hHeld ?_
                rotate_left
                · intro w hSw; (try dsimp only at hSw); go_simp; (try with_reducible rfl)
                try simp only [Act.put, List.setIfInBounds_toArray, List.set_cons_zero, List.set_cons_succ]
                refine wpAnyH_done (by kernel_rfl) ?_ _
                rotate_left
                go_simp
                have n11 := NewC.make hR ft; have hR := hR.no ((Keeps.refl NoS _).alloc (.cells #[.int .i64 ft] 2)); (try have n5 := n5.no ((Keeps.refl NoS _).alloc (.cells #[.int .i64 ft] 2))); obtain ⟨b11, hb11⟩ : ∃ b, wq.heap.size = b := ⟨_, rfl⟩; rw [hb11] at n11 ⊢; clear hb11; generalize wq.alloc (.cells #[.int .i64 ft] 2) = wq at *
                refine hkC.out _ _ ?_ (fun hHeld => ?_)
                · exact (⟨hR.cy, hR.cf⟩)
                clear hkC kC
                try simp only [Act.put, List.setIfInBounds_toArray, List.set_cons_zero, List.set_cons_succ]
                refine wpAnyH_ready (rs := [5]) (by kernel_rfl) (by simp) ?_
                refine AllReadyH.cons (by simp only [List.getElem?_toArray, List.getElem?_cons_succ, List.getElem?_cons_zero]; rfl) (fun kC hkC => ?_) AllReadyH.nil
                go_simp
                have n5 := NewC.make hR y'; have hR := hR.no ((Keeps.refl NoS _).alloc (.cells #[.int .i64 y'] 2)); (try have n11 := n11.no ((Keeps.refl NoS _).alloc (.cells #[.int .i64 y'] 2))); obtain ⟨b5, hb5⟩ : ∃ b, wq.heap.size = b := ⟨_, rfl⟩; rw [hb5] at n5 ⊢; clear hb5; generalize wq.alloc (.cells #[.int .i64 y'] 2) = wq at *
                refine hkC.out _ _ ?_ (fun hHeld => ?_)
                · exact (⟨hR.cy, hR.cf⟩)
                clear hkC kC
                try simp only [Act.put, List.setIfInBounds_toArray, List.set_cons_zero, List.set_cons_succ]
                refine wpAnyH_ready (rs := [6]) (by kernel_rfl) (by simp) ?_
                refine AllReadyH.cons (by simp only [List.getElem?_toArray, List.getElem?_cons_succ, List.getElem?_cons_zero]; rfl) (fun kC hkC => ?_) AllReadyH.nil
                (refine step_row HI6.out _ (by rfl) (.tmp 88) (.tmp 93) (by rfl) (G + 2) u17 O (by rfl) hR.o ⟨b5, 0, none⟩ 1 1 [y'] (by rfl) rfl n5.news (by omega) hR.q.f.lt ?_; intro v6 wq hr6 hg6 hb6; (try have n11 := n11.app1 hg6 hb6); have hR := hR.app1 HA.out hr6 hg6 hb6; clear hr6 hg6 hb6)
                refine hkC.out _ _ ?_ (fun hHeld => ?_)
                · exact (⟨hR.cy, hR.cf⟩)
                clear hkC kC
                try simp only [Act.put, List.setIfInBounds_toArray, List.set_cons_zero, List.set_cons_succ]
                refine wpAnyH_ready (rs := [12]) (by kernel_rfl) (by simp) ?_
                refine AllReadyH.cons (by simp only [List.getElem?_toArray, List.getElem?_cons_succ, List.getElem?_cons_zero]; rfl) (fun kC hkC => ?_) AllReadyH.nil
                (refine step_row HI6.out _ (by rfl) (.tmp 95) (.tmp 99) (by rfl) (G + 2) u18 Gl (by rfl) hR.g ⟨b11, 0, none⟩ 1 1 [ft] (by rfl) rfl n11.news (by omega) hR.q.f.lt ?_; intro v12 wq hr12 hg12 hb12; have hR := hR.app2 HA.out hr12 hg12 hb12; clear hr12 hg12 hb12)
                refine hkC.out _ _ ?_ (fun hHeld => ?_)
                · exact (⟨hR.cy, hR.cf⟩)
                clear hkC kC
                try simp only [Act.put, List.setIfInBounds_toArray, List.set_cons_zero, List.set_cons_succ]
                refine wpAnyH_take (i := 13) (v := ?_) (by simp only [List.getElem?_toArray, List.getElem?_cons_succ, List.getElem?_cons_zero]; rfl) (by kernel_rfl) (by kernel_rfl) (by kernel_rfl) (by exact fun _ _ _ h => h) (Or.inl ⟨by rfl, ?_⟩) hHeld ?_
                rotate_left
                · intro w hSw; (try dsimp only at hSw); go_simp; (try with_reducible rfl)
                try simp only [Act.put, List.setIfInBounds_toArray, List.set_cons_zero, List.set_cons_succ]
                refine wpAnyH_take (i := 14) (v := ?_) (by simp only [List.getElem?_toArray, List.getElem?_cons_succ, List.getElem?_cons_zero]; rfl) (by kernel_rfl) (by kernel_rfl) (by kernel_rfl) (by exact fun _ _ _ h => h) (Or.inl ⟨by rfl, ?_⟩) hHeld ?_
                rotate_left
                · intro w hSw; (try dsimp only at hSw); go_simp; (try with_reducible rfl)
                try simp only [Act.put, List.setIfInBounds_toArray, List.set_cons_zero, List.set_cons_succ]
                refine wpAnyH_done (by kernel_rfl) ?_ _
                rotate_left
                all_goals
                  have HR := Lib.hid hR
                  clear hR n11
                  go_wp2_with (go_at_call 37; refine (HSA.out _).mono ?_; rintro e w9 ⟨rfl, hk9⟩; have hR9 := HR.out.no hk9; obtain ⟨x0, x1, x2, x3⟩ := hR9.q.b.cell ht3 (upd_at _ _ _); have f0 := hR9.q.b.free (t * 4); have f1' := hR9.q.b.free (t * 4 + 1); have f2 := hR9.q.b.free (t * 4 + 2); have f3 := hR9.q.b.free (t * 4 + 3); have fl := hR9.q.b.lt; have hY := hR9.setB HA.out ht3 ⟨3, 0, 0, 0⟩; unfold setBp at hY; dsimp only at hY; have HY := Lib.hid hY; clear hR9 hY)
                  go_roundw
                  case rel => exact ⟨n + 1, ⟨M', upd b t ⟨3, 0, 0, 0⟩, f1, O ++ [y'], Gl ++ [ft]⟩, by omega, by go_num, HSL.out, HY.out.1, HY.out.2.1, HY.out.2.2.1, by simp; omega, HY.out.2.2.2⟩
                  case measure => simp [intOf]; omega
              · have hsl := hsl.2 h9
                have hst1 : M'.st = (n : Int) + 1 := hsl.st
                have HST1 := Lib.hid hst1; have HSL := Lib.hid hsl
                clear hsl hst1
                go_wp2_with (go_at_call 26; refine (steps_any a v M' _ HQ.out.t.s.m).mono ?_; rw [HST1.out]; rintro e w8 ⟨rfl, rfl⟩)
                go_roundw
                case rel => exact ⟨n + 1, _, by omega, by go_num, HSL.out, HQ.out, HO7.out, HG7.out, by dsimp only; omega, HGB.out⟩
                case measure => simp [intOf]; omega
          · obtain rfl : n = L.length := by omega
            have hwA : M.atP 1 = M.word (atK 3) := by rw [HAT.out]; exact atP_nat (n := 1) (by rw [HC.out.len]; decide)
            have HWA := Lib.hid hwA
            clear hwA
            go_wp2_with (go_at_call 19; refine (peek_tot a v M 1 _ HU.out.t.s.m).mono ?_; rw [HWA.out]; rintro e w6 ⟨rfl, rfl⟩)
            exact bodyPost_ret (v := .tuple #[u17, u18, .int .i64 (M.word (atK 3)), .bool true]) (by simp [results, Try.results35, go_sem]) rfl ⟨⟨M, b, fr, O, Gl⟩, u17, u18, rfl, HC.out, RowI.lower0 HO.out, RowI.lower0 HG.out, hol, HWk.out.trans HU.out.t.s.kp⟩
  · have HAT := Lib.hid (show atK k = 0 from by unfold atK; rw [if_neg h3])
    have h3' : (k == 3) = false := beq_eq_false_iff_ne.2 h3
    have hen2 : (en == 2) = false := by rw [hen]; exact h3'
    clear hen
    go_wp2_with (go_at_call 50; refine (clock_lit 2 2 4 0 2 0 clk8.1 _).mono ?_; rintro e wx ⟨rfl, hkx⟩; have HTx := Lib.hid (HT.out.keep hkx))
    obtain ⟨G, hG⟩ : ∃ G, wx.heap.size = G := ⟨_, rfl⟩
    obtain ⟨w3, hw3, hr, hA⟩ := buS_new hG HTx.out
    have HR := Lib.hid hr; have HA := Lib.hid hA; have HW3 := Lib.hid hw3
    clear hr hA hw3
    go_wp2_with fail
    rw [HW3.out]
    (try rw [hG])
    clear hG HW3 HTx
    go_loopw [16] (fun i wr => ∃ (t : Nat) (b : Nat → BumpS), t ≤ 3 ∧ i = .int .i64 t ∧ BuS W wr a c v u G ⟨M0 48, b, fun _ => 0, [], []⟩ ∧ ∀ j, j < t → b j = ⟨k, 0, 0, 0⟩) (fun i _ => 3 - (intOf i).toNat)
    case atStart => exact ⟨0, _, by omega, rfl, HR.out, fun j hj => absurd hj (by omega)⟩
    case round =>
      obtain ⟨t, b, ht, rfl, hr, hbt⟩ := hrel
      have HX := Lib.hid hr; have HBT := Lib.hid hbt
      clear hr hbt HR
      by_cases h4 : t < 3
      · have ht1 : (0 : Int) ≤ (t : Int) := by omega
        have ht2 : (t : Int) < 3 := by omega
        go_wp2_with (go_at_call 37; refine (HSA.out _).mono ?_; rintro e w5 ⟨rfl, hk5⟩; have hX5 := HX.out.no hk5; obtain ⟨bk, hbk⟩ : ∃ bk, b t = bk := ⟨_, rfl⟩; obtain ⟨q0, q1, q2, q3⟩ := bk; obtain ⟨x0, x1, x2, x3⟩ := hX5.b.cell h4 hbk; have f0 := hX5.b.free (t * 4); have f1 := hX5.b.free (t * 4 + 1); have f2 := hX5.b.free (t * 4 + 2); have f3 := hX5.b.free (t * 4 + 3); have fl := hX5.b.lt; have hY := hX5.setB HA.out t h4 ⟨k, 0, 0, 0⟩; unfold setBp at hY; dsimp only at hY; have HY := Lib.hid hY; clear hX5 hY hbk)
        go_roundw
        case rel => exact ⟨t + 1, _, by omega, by go_num, HY.out, upd_lt HBT.out⟩
        case measure => simp [intOf]; omega
      · have hci : CI k 0 ⟨M0 48, b, fun _ => 0, [], []⟩ := by
          have h0 := CI.start (k := k) (by first | decide | exact HKK.out) (fun _ => 0)
          exact ⟨h0.len, h0.st, h0.wlo, h0.whi, h0.ev, fun j hj => .inl (HBT.out j (by omega)), h0.ln, h0.lt, h0.own⟩
        have HCI := Lib.hid hci
        clear hci HBT
        go_wp2_with fail
        go_loopw [17, 18, 19] (fun ov gv iv wq => ∃ (n : Nat) (S : BumpsS), n ≤ L.length ∧ iv = .int .i64 n ∧ CI k n S ∧ BuS W wq a c v u G S ∧ RowI 2 wq (G + 2) ov S.O ∧ RowI 2 wq (G + 2) gv S.G ∧ S.O.length ≤ n ∧ (∀ g, gv.ownBlock = some g → ov.ownBlock ≠ some g)) (fun _ _ iv _ => L.length - (intOf iv).toNat)
        case atStart => exact ⟨0, _, by omega, rfl, HCI.out, HX.out, RowI.nil _ _ _, RowI.nil _ _ _, Nat.zero_le _, by simp [Value.ownBlock]⟩
        case round =>
          obtain ⟨n, ⟨M, b, fr, O, Gl⟩, hnl, rfl, hci, hbu, ho, hg, hol, hgb⟩ := hrel
          have HC := Lib.hid hci; have HU := Lib.hid hbu; have HO := Lib.hid ho; have HG := Lib.hid hg; have HGB := Lib.hid hgb
          clear hci hbu ho hg hgb HX HCI
          by_cases hlt : n < L.length
          · obtain ⟨bb, off, rfl, hcs⟩ := HW.out (fun e => by rw [e] at hlt; simp at hlt)
            have cn := (HWk.out.trans HU.out.t.s.kp).cell (hcs n hlt) (fun f => f)
            clear hcs
            generalize L.getD n 0 = z at cn
            obtain ⟨t, hz, ht3⟩ := mod_bd3 z
            have ht1 : (0 : Int) ≤ (t : Int) := by omega
            have ht2 : (t : Int) < 3 := by omega
            have hbs := HC.out.bs t ht3
            dsimp only at hbs
            have hnst : M.st = (n : Int) := HC.out.st
            have hfl := HU.out.f.lt
            dsimp only at hol
            have hgl : Gl.length = O.length := HC.out.ln
            have hgl' : Gl.length ≤ 1000 := by omega
            clear hgl
            have ff := HU.out.f.free t
            have fc := HU.out.f.cell t ht3
            have hwA : M.atP 0 = M.word (atK k) := by rw [HAT.out]; exact atP_nat (n := 0) (by rw [HC.out.len]; decide)
            have HNST := Lib.hid hnst; have HWA := Lib.hid hwA
            clear hnst hwA
            rcases hbs with hb | ⟨hb, hf0, hf1, _⟩
            · obtain ⟨x0, x1, x2, x3⟩ := HU.out.b.cell ht3 hb
              have hsl := CI.stepAt (k := k) (by first | decide | exact HKK.out) (show n < 1000 by omega) HC.out ht3 hb (F := upd fr t (M.word (atK k))) (if_pos rfl)
              have HSL := Lib.hid hsl; have HB := Lib.hid hb
              clear hsl hb
              obtain ⟨wd, hwd⟩ : ∃ x, M.word (atK k) = x := ⟨_, rfl⟩
              rw [hwd] at HSL HWA
              clear hwd
              go_upto_region 21 with (go_at_call 19; refine (peek_tot a v M 0 _ HU.out.t.s.m).mono ?_; rw [HWA.out]; rintro e w6 ⟨rfl, rfl⟩)
              have hU1 := HU.out.setF HA.out t ht3 wd
              have hO1 := HO.out.below (S := just (G + 1)) (Keeps.set1 wr (G + 1) t (.int .i64 wd)) (fun g h => by have h' : g = G + 1 := h; omega)
              have hG1 := HG.out.below (S := just (G + 1)) (Keeps.set1 wr (G + 1) t (.int .i64 wd)) (fun g h => by have h' : g = G + 1 := h; omega)
              dsimp only at hU1
              generalize wr.setCell ⟨G + 1, t, none⟩ (.int .i64 wd) = wz at *
              generalize upd fr t wd = f1 at *
              have HU1 := Lib.hid hU1; have HO1 := Lib.hid hO1; have HG1 := Lib.hid hG1
              clear hU1 hO1 hG1 x0 x1 x2 x3 fc ff hfl cn
              clear HU HO HG
              generalize hf1t : f1 t = ft at *
              have HFT := Lib.hid hf1t
              clear hf1t
              obtain ⟨M', h', hd⟩ : ∃ M' h', stepB ⟨2, 2, 4, 0, 2⟩ M ⟨k, 0, 0, 0⟩ = (M', h') := ⟨_, _, rfl⟩
              obtain ⟨k', s', x', y'⟩ := h'
              have hsl := HSL.out M' k' s' x' y' hd
              have HD := Lib.hid hd
              clear hd HSL
              obtain ⟨m0, m1, m2, m3, m4⟩ := HBm.out _ HU1.out.t.s.kp
              have hbd := HU1.out.no ((Keeps.refl NoS _).drew)
              have hOd := HO1.out.no ((Keeps.refl NoS _).drew)
              have hGd := HG1.out.no ((Keeps.refl NoS _).drew)
              go_upto_region 22 with (go_at_call 26; refine (steps_any a v M _ HU1.out.t.s.m).mono ?_; rw [HNST.out]; rintro e w6 ⟨rfl, rfl⟩)
              obtain ⟨x0, x1, x2, x3⟩ := HU1.out.b.cell ht3 HB.out
              refine wp_region_kept_drew 8 (fun w' => (w'.cell? ⟨G, t * 4, none⟩ = some (.int .i64 k) ∧ w'.cell? ⟨G, t * 4 + 1, none⟩ = some (.int .i64 0) ∧ w'.cell? ⟨G, t * 4 + 2, none⟩ = some (.int .i64 0) ∧ w'.cell? ⟨G, t * 4 + 3, none⟩ = some (.int .i64 0)) ∧ (w'.cell? ⟨B, 0, none⟩ = some (.int .i64 2) ∧ w'.cell? ⟨B, 1, none⟩ = some (.int .i64 2) ∧ w'.cell? ⟨B, 2, none⟩ = some (.int .i64 4) ∧ w'.cell? ⟨B, 3, none⟩ = some (.int .i64 0) ∧ w'.cell? ⟨B, 4, none⟩ = some (.int .i64 2))) 8 (fun _ => True) (by kernel_rfl) (⟨⟨x0, x1, x2, x3⟩, ⟨m0, m1, m2, m3, m4⟩⟩) (trivial) (fun hK => ?_)
              refine wpAnyK_take1 (i := 0) (v := ?_) (by simp only [List.getElem?_toArray, List.getElem?_cons_succ, List.getElem?_cons_zero]; rfl) (by kernel_rfl) (by kernel_rfl) (by kernel_rfl) (by kernel_rfl) (by kernel_rfl) (by kernel_rfl) (by exact fun _ _ _ h => h) (Or.inl ⟨by rfl, ?_⟩) (hK _) ?_
              rotate_left
              · intro w hSw; (try dsimp only at hSw); go_simp; (try with_reducible rfl)
              try simp only [Act.put, List.setIfInBounds_toArray, List.set_cons_zero, List.set_cons_succ]
              refine wpAnyK_take1 (i := 1) (v := ?_) (by simp only [List.getElem?_toArray, List.getElem?_cons_succ, List.getElem?_cons_zero]; rfl) (by kernel_rfl) (by kernel_rfl) (by kernel_rfl) (by kernel_rfl) (by kernel_rfl) (by kernel_rfl) (by exact fun _ _ _ h => h) (Or.inl ⟨by rfl, ?_⟩) (hK _) ?_
              rotate_left
              · intro w hSw; (try dsimp only at hSw); go_simp; (try with_reducible rfl)
              try simp only [Act.put, List.setIfInBounds_toArray, List.set_cons_zero, List.set_cons_succ]
              refine wpAnyK_take1 (i := 2) (v := ?_) (by simp only [List.getElem?_toArray, List.getElem?_cons_succ, List.getElem?_cons_zero]; rfl) (by kernel_rfl) (by kernel_rfl) (by kernel_rfl) (by kernel_rfl) (by kernel_rfl) (by kernel_rfl) (by exact fun _ _ _ h => h) (Or.inl ⟨by rfl, ?_⟩) (hK _) ?_
              rotate_left
              · intro w hSw; (try dsimp only at hSw); go_simp; (try with_reducible rfl)
              try simp only [Act.put, List.setIfInBounds_toArray, List.set_cons_zero, List.set_cons_succ]
              refine wpAnyK_take1 (i := 3) (v := ?_) (by simp only [List.getElem?_toArray, List.getElem?_cons_succ, List.getElem?_cons_zero]; rfl) (by kernel_rfl) (by kernel_rfl) (by kernel_rfl) (by kernel_rfl) (by kernel_rfl) (by kernel_rfl) (by exact fun _ _ _ h => h) (Or.inl ⟨by rfl, ?_⟩) (hK _) ?_
              rotate_left
              · intro w hSw; (try dsimp only at hSw); go_simp; (try with_reducible rfl)
              try simp only [Act.put, List.setIfInBounds_toArray, List.set_cons_zero, List.set_cons_succ]
              refine wpAnyK_take1 (i := 4) (v := ?_) (by simp only [List.getElem?_toArray, List.getElem?_cons_succ, List.getElem?_cons_zero]; rfl) (by kernel_rfl) (by kernel_rfl) (by kernel_rfl) (by kernel_rfl) (by kernel_rfl) (by kernel_rfl) (by exact fun _ _ _ h => h) (Or.inl ⟨by rfl, ?_⟩) (hK _) ?_
              rotate_left
              · intro w hSw; (try dsimp only at hSw); go_simp; (try with_reducible rfl)
              try simp only [Act.put, List.setIfInBounds_toArray, List.set_cons_zero, List.set_cons_succ]
              refine wpAnyK_take1 (i := 5) (v := ?_) (by simp only [List.getElem?_toArray, List.getElem?_cons_succ, List.getElem?_cons_zero]; rfl) (by kernel_rfl) (by kernel_rfl) (by kernel_rfl) (by kernel_rfl) (by kernel_rfl) (by kernel_rfl) (by exact fun _ _ _ h => h) (Or.inl ⟨by rfl, ?_⟩) (hK _) ?_
              rotate_left
              · intro w hSw; (try dsimp only at hSw); go_simp; (try with_reducible rfl)
              try simp only [Act.put, List.setIfInBounds_toArray, List.set_cons_zero, List.set_cons_succ]
              refine wpAnyK_one (i := 6) (by kernel_rfl) (by simp only [List.getElem?_toArray, List.getElem?_cons_succ, List.getElem?_cons_zero]; rfl) (fun kC hkC => ?_)
              go_simp
              refine (step_any 2 2 4 0 2 k 0 0 0 a v M _ hbd.t.s.m).mono ?_; rw [HD.out]; unfold bumpV; dsimp only; rintro e w7 ⟨rfl, hm, hk⟩; have hX7 := hbd.own HA.out hm hk; have hO7 := hOd.ownA HA.out (by omega) hk; have hG7 := hGd.ownA HA.out (by omega) hk; have m7 := HBm.out _ hX7.t.s.kp; have c7 := hX7.b.cell ht3 HB.out; have F0 := hX7.b.free (t * 4); have F1 := hX7.b.free (t * 4 + 1); have F2 := hX7.b.free (t * 4 + 2); have F3 := hX7.b.free (t * 4 + 3); have hl7 := hX7.b.lt; have hQ7 := hX7.setB HA.out t ht3 ⟨k', s', x', y'⟩; have hO8 := hO7.setB t ⟨k', s', x', y'⟩; have hG8 := hG7.setB t ⟨k', s', x', y'⟩; unfold setBp at hQ7 hO8 hG8; dsimp only at hQ7 hO8 hG8; have HQ := Lib.hid hQ7; have HO7 := Lib.hid hO8; have HG7 := Lib.hid hG8; clear hQ7 hO8 hG8 hm hX7 hO7 hG7
              (try go_wp2_with fail)
              refine hkC.out _ _ (⟨c7, m7⟩) (trivial) (fun hK => ?_)
              clear hkC kC
              try simp only [Act.put, List.setIfInBounds_toArray, List.set_cons_zero, List.set_cons_succ]
              refine wpAnyK_take1 (i := 7) (v := ?_) (by simp only [List.getElem?_toArray, List.getElem?_cons_succ, List.getElem?_cons_zero]; rfl) (by kernel_rfl) (by kernel_rfl) (by kernel_rfl) (by kernel_rfl) (by kernel_rfl) (by kernel_rfl) (by exact fun _ _ _ h => h) (Or.inl ⟨by rfl, ?_⟩) (hK _) ?_
              rotate_left
              · intro w hSw; (try dsimp only at hSw); go_simp; (try with_reducible rfl)
              try simp only [Act.put, List.setIfInBounds_toArray, List.set_cons_zero, List.set_cons_succ]
              refine wpAnyK_last (i := 8) (by kernel_rfl) (by simp only [List.getElem?_toArray, List.getElem?_cons_succ, List.getElem?_cons_zero]; rfl) (by kernel_rfl) (by kernel_rfl) (fun kC hkC => ?_)
              go_simp
              refine hkC.out _ _ ?_
              clear hkC kC
              try simp only [Act.put, List.setIfInBounds_toArray, List.set_cons_zero, List.set_cons_succ]
              refine wpAnyK_done (by kernel_rfl) ?_ _
              generalize (((w7.setCell ⟨G, t * 4, none⟩ (.int .i64 k')).setCell ⟨G, t * 4 + 1, none⟩ (.int .i64 s')).setCell ⟨G, t * 4 + 2, none⟩ (.int .i64 x')).setCell ⟨G, t * 4 + 3, none⟩ (.int .i64 y') = wy at *
              clear c7 F0 F1 F2 F3 hl7 x0 x1 x2 x3 m0 m1 m2 m3 m4 hbd hOd hGd m7 hk HU1 HO1 HG1 HD
              obtain ⟨x0, x1, x2, x3⟩ := HQ.out.b.cell ht3 (upd_at _ _ _)
              have hfc := HQ.out.f.cell t ht3
              dsimp only at hfc
              rw [HFT.out] at hfc
              by_cases h9 : s' = 9
              · subst h9
                have hsl := hsl.1 rfl
                have hst1 : M'.st = (n : Int) + 1 := hsl.st
                have HST1 := Lib.hid hst1; have HSL := Lib.hid hsl
                clear hsl hst1
                go_upto_region 26 with (go_at_call 26; refine (steps_any a v M' _ HQ.out.t.s.m).mono ?_; rw [HST1.out]; rintro e w8 ⟨rfl, rfl⟩)
                have hR : R26 W wy.drew a c v u G ⟨M', upd b t ⟨k', 9, x', y'⟩, f1, O, Gl⟩ u17 u18 O Gl t y' ft := ⟨HQ.out.no ((Keeps.refl NoS _).drew), HO7.out.no ((Keeps.refl NoS _).drew), HG7.out.no ((Keeps.refl NoS _).drew), HGB.out, x3, hfc⟩
                clear x0 x1 x2 x3 hfc HQ HO7 HG7
                refine wp_region_held_drew (S := (fun w' => w'.cell? ⟨G, t * 4 + 3, none⟩ = some (.int .i64 y') ∧ w'.cell? ⟨G + 1, t, none⟩ = some (.int .i64 ft))) (by kernel_rfl) (⟨hR.cy, hR.cf⟩) (fun hHeld => ?_)
                generalize wy.drew = wq at *
                refine wpAnyH_take (i := 0) (v := ?_) (by simp only [List.getElem?_toArray, List.getElem?_cons_succ, List.getElem?_cons_zero]; rfl) (by kernel_rfl) (by kernel_rfl) (by kernel_rfl) (by exact fun _ _ _ h => h) (Or.inl ⟨by rfl, ?_⟩) hHeld ?_
                rotate_left
                · intro w hSw; (try dsimp only at hSw); go_simp; (try with_reducible rfl)
                try simp only [Act.put, List.setIfInBounds_toArray, List.set_cons_zero, List.set_cons_succ]
                refine wpAnyH_take (i := 1) (v := ?_) (by simp only [List.getElem?_toArray, List.getElem?_cons_succ, List.getElem?_cons_zero]; rfl) (by kernel_rfl) (by kernel_rfl) (by kernel_rfl) (by exact fun _ _ _ h => h) (Or.inl ⟨by rfl, ?_⟩) hHeld ?_
                rotate_left
                · intro w hSw; (try dsimp only at hSw); go_simp; (try with_reducible rfl)
                try simp only [Act.put, List.setIfInBounds_toArray, List.set_cons_zero, List.set_cons_succ]
                refine wpAnyH_take (i := 2) (v := ?_) (by simp only [List.getElem?_toArray, List.getElem?_cons_succ, List.getElem?_cons_zero]; rfl) (by kernel_rfl) (by kernel_rfl) (by kernel_rfl) (by exact fun _ _ _ h => h) (Or.inl ⟨by rfl, ?_⟩) hHeld ?_
                rotate_left
                · intro w hSw; (try dsimp only at hSw); go_simp; (try with_reducible rfl)
                try simp only [Act.put, List.setIfInBounds_toArray, List.set_cons_zero, List.set_cons_succ]
                refine wpAnyH_take (i := 3) (v := ?_) (by simp only [List.getElem?_toArray, List.getElem?_cons_succ, List.getElem?_cons_zero]; rfl) (by kernel_rfl) (by kernel_rfl) (by kernel_rfl) (by exact fun _ _ _ h => h) (Or.inl ⟨by rfl, ?_⟩) hHeld ?_
                rotate_left
                · intro w hSw; (try dsimp only at hSw); go_simp; (try with_reducible rfl)
                try simp only [Act.put, List.setIfInBounds_toArray, List.set_cons_zero, List.set_cons_succ]
                refine wpAnyH_take (i := 4) (v := ?_) (by simp only [List.getElem?_toArray, List.getElem?_cons_succ, List.getElem?_cons_zero]; rfl) (by kernel_rfl) (by kernel_rfl) (by kernel_rfl) (by exact fun _ _ _ h => h) (Or.inl ⟨by rfl, ?_⟩) hHeld ?_
                rotate_left
                · intro w hSw; (try dsimp only at hSw); go_simp; (try with_reducible rfl)
                try simp only [Act.put, List.setIfInBounds_toArray, List.set_cons_zero, List.set_cons_succ]
                refine wpAnyH_take (i := 7) (v := ?_) (by simp only [List.getElem?_toArray, List.getElem?_cons_succ, List.getElem?_cons_zero]; rfl) (by kernel_rfl) (by kernel_rfl) (by kernel_rfl) (by exact fun _ _ _ h => h) (Or.inl ⟨by rfl, ?_⟩) hHeld ?_
                rotate_left
                · intro w hSw; (try dsimp only at hSw); go_simp; (try with_reducible rfl)
                try simp only [Act.put, List.setIfInBounds_toArray, List.set_cons_zero, List.set_cons_succ]
                refine wpAnyH_take (i := 8) (v := ?_) (by simp only [List.getElem?_toArray, List.getElem?_cons_succ, List.getElem?_cons_zero]; rfl) (by kernel_rfl) (by kernel_rfl) (by kernel_rfl) (by exact fun _ _ _ h => h) (Or.inl ⟨by rfl, ?_⟩) hHeld ?_
                rotate_left
                · intro w hSw; (try dsimp only at hSw); go_simp; (try with_reducible rfl)
                try simp only [Act.put, List.setIfInBounds_toArray, List.set_cons_zero, List.set_cons_succ]
                refine wpAnyH_take (i := 9) (v := ?_) (by simp only [List.getElem?_toArray, List.getElem?_cons_succ, List.getElem?_cons_zero]; rfl) (by kernel_rfl) (by kernel_rfl) (by kernel_rfl) (by exact fun _ _ _ h => h) (Or.inl ⟨by rfl, ?_⟩) hHeld ?_
                rotate_left
                · intro w hSw; (try dsimp only at hSw); go_simp; (try with_reducible rfl)
                try simp only [Act.put, List.setIfInBounds_toArray, List.set_cons_zero, List.set_cons_succ]
                refine wpAnyH_take (i := 10) (v := ?_) (by simp only [List.getElem?_toArray, List.getElem?_cons_succ, List.getElem?_cons_zero]; rfl) (by kernel_rfl) (by kernel_rfl) (by kernel_rfl) (by exact fun _ _ _ h => h) (Or.inl ⟨by rfl, ?_⟩) hHeld ?_
                rotate_left
                · intro w hSw; (try dsimp only at hSw); go_simp; (try with_reducible rfl)
                try simp only [Act.put, List.setIfInBounds_toArray, List.set_cons_zero, List.set_cons_succ]
                refine wpAnyH_ready (rs := [5, 11]) (by kernel_rfl) (by simp) ?_
                refine AllReadyH.cons (by simp only [List.getElem?_toArray, List.getElem?_cons_succ, List.getElem?_cons_zero]; rfl) (fun kC hkC => ?_) (AllReadyH.cons (by simp only [List.getElem?_toArray, List.getElem?_cons_succ, List.getElem?_cons_zero]; rfl) (fun kC hkC => ?_) AllReadyH.nil)
                go_simp
                have n5 := NewC.make hR y'; have hR := hR.no ((Keeps.refl NoS _).alloc (.cells #[.int .i64 y'] 2)); (try have n11 := n11.no ((Keeps.refl NoS _).alloc (.cells #[.int .i64 y'] 2))); obtain ⟨b5, hb5⟩ : ∃ b, wq.heap.size = b := ⟨_, rfl⟩; rw [hb5] at n5 ⊢; clear hb5; generalize wq.alloc (.cells #[.int .i64 y'] 2) = wq at *
                refine hkC.out _ _ ?_ (fun hHeld => ?_)
                · exact (⟨hR.cy, hR.cf⟩)
                clear hkC kC
                try simp only [Act.put, List.setIfInBounds_toArray, List.set_cons_zero, List.set_cons_succ]
                refine wpAnyH_ready (rs := [6, 11]) (by kernel_rfl) (by simp) ?_
                refine AllReadyH.cons (by simp only [List.getElem?_toArray, List.getElem?_cons_succ, List.getElem?_cons_zero]; rfl) (fun kC hkC => ?_) (AllReadyH.cons (by simp only [List.getElem?_toArray, List.getElem?_cons_succ, List.getElem?_cons_zero]; rfl) (fun kC hkC => ?_) AllReadyH.nil)
                (refine step_row HI6.out _ (by rfl) (.tmp 88) (.tmp 93) (by rfl) (G + 2) u17 O (by rfl) hR.o ⟨b5, 0, none⟩ 1 1 [y'] (by rfl) rfl n5.news (by omega) hR.q.f.lt ?_; intro v6 wq hr6 hg6 hb6; (try have n11 := n11.app1 hg6 hb6); have hR := hR.app1 HA.out hr6 hg6 hb6; clear hr6 hg6 hb6)
                refine hkC.out _ _ ?_ (fun hHeld => ?_)
                · exact (⟨hR.cy, hR.cf⟩)
                clear hkC kC
                try simp only [Act.put, List.setIfInBounds_toArray, List.set_cons_zero, List.set_cons_succ]
                refine wpAnyH_ready (rs := [11]) (by kernel_rfl) (by simp) ?_
                refine AllReadyH.cons (by simp only [List.getElem?_toArray, List.getElem?_cons_succ, List.getElem?_cons_zero]; rfl) (fun kC hkC => ?_) AllReadyH.nil
                go_simp
                have n11 := NewC.make hR ft; have hR := hR.no ((Keeps.refl NoS _).alloc (.cells #[.int .i64 ft] 2)); (try have n5 := n5.no ((Keeps.refl NoS _).alloc (.cells #[.int .i64 ft] 2))); obtain ⟨b11, hb11⟩ : ∃ b, wq.heap.size = b := ⟨_, rfl⟩; rw [hb11] at n11 ⊢; clear hb11; generalize wq.alloc (.cells #[.int .i64 ft] 2) = wq at *
                refine hkC.out _ _ ?_ (fun hHeld => ?_)
                · exact (⟨hR.cy, hR.cf⟩)
                clear hkC kC
                try simp only [Act.put, List.setIfInBounds_toArray, List.set_cons_zero, List.set_cons_succ]
                refine wpAnyH_ready (rs := [12]) (by kernel_rfl) (by simp) ?_
                refine AllReadyH.cons (by simp only [List.getElem?_toArray, List.getElem?_cons_succ, List.getElem?_cons_zero]; rfl) (fun kC hkC => ?_) AllReadyH.nil
                (refine step_row HI6.out _ (by rfl) (.tmp 95) (.tmp 99) (by rfl) (G + 2) u18 Gl (by rfl) hR.g ⟨b11, 0, none⟩ 1 1 [ft] (by rfl) rfl n11.news (by omega) hR.q.f.lt ?_; intro v12 wq hr12 hg12 hb12; have hR := hR.app2 HA.out hr12 hg12 hb12; clear hr12 hg12 hb12)
                refine hkC.out _ _ ?_ (fun hHeld => ?_)
                · exact (⟨hR.cy, hR.cf⟩)
                clear hkC kC
                try simp only [Act.put, List.setIfInBounds_toArray, List.set_cons_zero, List.set_cons_succ]
                refine wpAnyH_take (i := 13) (v := ?_) (by simp only [List.getElem?_toArray, List.getElem?_cons_succ, List.getElem?_cons_zero]; rfl) (by kernel_rfl) (by kernel_rfl) (by kernel_rfl) (by exact fun _ _ _ h => h) (Or.inl ⟨by rfl, ?_⟩) hHeld ?_
                rotate_left
                · intro w hSw; (try dsimp only at hSw); go_simp; (try with_reducible rfl)
                try simp only [Act.put, List.setIfInBounds_toArray, List.set_cons_zero, List.set_cons_succ]
                refine wpAnyH_take (i := 14) (v := ?_) (by simp only [List.getElem?_toArray, List.getElem?_cons_succ, List.getElem?_cons_zero]; rfl) (by kernel_rfl) (by kernel_rfl) (by kernel_rfl) (by exact fun _ _ _ h => h) (Or.inl ⟨by rfl, ?_⟩) hHeld ?_
                rotate_left
                · intro w hSw; (try dsimp only at hSw); go_simp; (try with_reducible rfl)
                try simp only [Act.put, List.setIfInBounds_toArray, List.set_cons_zero, List.set_cons_succ]
                refine wpAnyH_done (by kernel_rfl) ?_ _
                rotate_left
                go_simp
                have n11 := NewC.make hR ft; have hR := hR.no ((Keeps.refl NoS _).alloc (.cells #[.int .i64 ft] 2)); (try have n5 := n5.no ((Keeps.refl NoS _).alloc (.cells #[.int .i64 ft] 2))); obtain ⟨b11, hb11⟩ : ∃ b, wq.heap.size = b := ⟨_, rfl⟩; rw [hb11] at n11 ⊢; clear hb11; generalize wq.alloc (.cells #[.int .i64 ft] 2) = wq at *
                refine hkC.out _ _ ?_ (fun hHeld => ?_)
                · exact (⟨hR.cy, hR.cf⟩)
                clear hkC kC
                try simp only [Act.put, List.setIfInBounds_toArray, List.set_cons_zero, List.set_cons_succ]
                refine wpAnyH_ready (rs := [6]) (by kernel_rfl) (by simp) ?_
                refine AllReadyH.cons (by simp only [List.getElem?_toArray, List.getElem?_cons_succ, List.getElem?_cons_zero]; rfl) (fun kC hkC => ?_) AllReadyH.nil
                (refine step_row HI6.out _ (by rfl) (.tmp 88) (.tmp 93) (by rfl) (G + 2) u17 O (by rfl) hR.o ⟨b5, 0, none⟩ 1 1 [y'] (by rfl) rfl n5.news (by omega) hR.q.f.lt ?_; intro v6 wq hr6 hg6 hb6; (try have n11 := n11.app1 hg6 hb6); have hR := hR.app1 HA.out hr6 hg6 hb6; clear hr6 hg6 hb6)
                refine hkC.out _ _ ?_ (fun hHeld => ?_)
                · exact (⟨hR.cy, hR.cf⟩)
                clear hkC kC
                try simp only [Act.put, List.setIfInBounds_toArray, List.set_cons_zero, List.set_cons_succ]
                refine wpAnyH_ready (rs := [12]) (by kernel_rfl) (by simp) ?_
                refine AllReadyH.cons (by simp only [List.getElem?_toArray, List.getElem?_cons_succ, List.getElem?_cons_zero]; rfl) (fun kC hkC => ?_) AllReadyH.nil
                (refine step_row HI6.out _ (by rfl) (.tmp 95) (.tmp 99) (by rfl) (G + 2) u18 Gl (by rfl) hR.g ⟨b11, 0, none⟩ 1 1 [ft] (by rfl) rfl n11.news (by omega) hR.q.f.lt ?_; intro v12 wq hr12 hg12 hb12; have hR := hR.app2 HA.out hr12 hg12 hb12; clear hr12 hg12 hb12)
                refine hkC.out _ _ ?_ (fun hHeld => ?_)
                · exact (⟨hR.cy, hR.cf⟩)
                clear hkC kC
                try simp only [Act.put, List.setIfInBounds_toArray, List.set_cons_zero, List.set_cons_succ]
                refine wpAnyH_take (i := 13) (v := ?_) (by simp only [List.getElem?_toArray, List.getElem?_cons_succ, List.getElem?_cons_zero]; rfl) (by kernel_rfl) (by kernel_rfl) (by kernel_rfl) (by exact fun _ _ _ h => h) (Or.inl ⟨by rfl, ?_⟩) hHeld ?_
                rotate_left
                · intro w hSw; (try dsimp only at hSw); go_simp; (try with_reducible rfl)
                try simp only [Act.put, List.setIfInBounds_toArray, List.set_cons_zero, List.set_cons_succ]
                refine wpAnyH_take (i := 14) (v := ?_) (by simp only [List.getElem?_toArray, List.getElem?_cons_succ, List.getElem?_cons_zero]; rfl) (by kernel_rfl) (by kernel_rfl) (by kernel_rfl) (by exact fun _ _ _ h => h) (Or.inl ⟨by rfl, ?_⟩) hHeld ?_
                rotate_left
                · intro w hSw; (try dsimp only at hSw); go_simp; (try with_reducible rfl)
                try simp only [Act.put, List.setIfInBounds_toArray, List.set_cons_zero, List.set_cons_succ]
                refine wpAnyH_done (by kernel_rfl) ?_ _
                rotate_left
                go_simp
                have n11 := NewC.make hR ft; have hR := hR.no ((Keeps.refl NoS _).alloc (.cells #[.int .i64 ft] 2)); (try have n5 := n5.no ((Keeps.refl NoS _).alloc (.cells #[.int .i64 ft] 2))); obtain ⟨b11, hb11⟩ : ∃ b, wq.heap.size = b := ⟨_, rfl⟩; rw [hb11] at n11 ⊢; clear hb11; generalize wq.alloc (.cells #[.int .i64 ft] 2) = wq at *
                refine hkC.out _ _ ?_ (fun hHeld => ?_)
                · exact (⟨hR.cy, hR.cf⟩)
                clear hkC kC
                try simp only [Act.put, List.setIfInBounds_toArray, List.set_cons_zero, List.set_cons_succ]
                refine wpAnyH_ready (rs := [5]) (by kernel_rfl) (by simp) ?_
                refine AllReadyH.cons (by simp only [List.getElem?_toArray, List.getElem?_cons_succ, List.getElem?_cons_zero]; rfl) (fun kC hkC => ?_) AllReadyH.nil
                go_simp
                have n5 := NewC.make hR y'; have hR := hR.no ((Keeps.refl NoS _).alloc (.cells #[.int .i64 y'] 2)); (try have n11 := n11.no ((Keeps.refl NoS _).alloc (.cells #[.int .i64 y'] 2))); obtain ⟨b5, hb5⟩ : ∃ b, wq.heap.size = b := ⟨_, rfl⟩; rw [hb5] at n5 ⊢; clear hb5; generalize wq.alloc (.cells #[.int .i64 y'] 2) = wq at *
                refine hkC.out _ _ ?_ (fun hHeld => ?_)
                · exact (⟨hR.cy, hR.cf⟩)
                clear hkC kC
                try simp only [Act.put, List.setIfInBounds_toArray, List.set_cons_zero, List.set_cons_succ]
                refine wpAnyH_ready (rs := [6]) (by kernel_rfl) (by simp) ?_
                refine AllReadyH.cons (by simp only [List.getElem?_toArray, List.getElem?_cons_succ, List.getElem?_cons_zero]; rfl) (fun kC hkC => ?_) AllReadyH.nil
                (refine step_row HI6.out _ (by rfl) (.tmp 88) (.tmp 93) (by rfl) (G + 2) u17 O (by rfl) hR.o ⟨b5, 0, none⟩ 1 1 [y'] (by rfl) rfl n5.news (by omega) hR.q.f.lt ?_; intro v6 wq hr6 hg6 hb6; (try have n11 := n11.app1 hg6 hb6); have hR := hR.app1 HA.out hr6 hg6 hb6; clear hr6 hg6 hb6)
                refine hkC.out _ _ ?_ (fun hHeld => ?_)
                · exact (⟨hR.cy, hR.cf⟩)
                clear hkC kC
                try simp only [Act.put, List.setIfInBounds_toArray, List.set_cons_zero, List.set_cons_succ]
                refine wpAnyH_ready (rs := [12]) (by kernel_rfl) (by simp) ?_
                refine AllReadyH.cons (by simp only [List.getElem?_toArray, List.getElem?_cons_succ, List.getElem?_cons_zero]; rfl) (fun kC hkC => ?_) AllReadyH.nil
                (refine step_row HI6.out _ (by rfl) (.tmp 95) (.tmp 99) (by rfl) (G + 2) u18 Gl (by rfl) hR.g ⟨b11, 0, none⟩ 1 1 [ft] (by rfl) rfl n11.news (by omega) hR.q.f.lt ?_; intro v12 wq hr12 hg12 hb12; have hR := hR.app2 HA.out hr12 hg12 hb12; clear hr12 hg12 hb12)
                refine hkC.out _ _ ?_ (fun hHeld => ?_)
                · exact (⟨hR.cy, hR.cf⟩)
                clear hkC kC
                try simp only [Act.put, List.setIfInBounds_toArray, List.set_cons_zero, List.set_cons_succ]
                refine wpAnyH_take (i := 13) (v := ?_) (by simp only [List.getElem?_toArray, List.getElem?_cons_succ, List.getElem?_cons_zero]; rfl) (by kernel_rfl) (by kernel_rfl) (by kernel_rfl) (by exact fun _ _ _ h => h) (Or.inl ⟨by rfl, ?_⟩) hHeld ?_
                rotate_left
                · intro w hSw; (try dsimp only at hSw); go_simp; (try with_reducible rfl)
                try simp only [Act.put, List.setIfInBounds_toArray, List.set_cons_zero, List.set_cons_succ]
                refine wpAnyH_take (i := 14) (v := ?_) (by simp only [List.getElem?_toArray, List.getElem?_cons_succ, List.getElem?_cons_zero]; rfl) (by kernel_rfl) (by kernel_rfl) (by kernel_rfl) (by exact fun _ _ _ h => h) (Or.inl ⟨by rfl, ?_⟩) hHeld ?_
                rotate_left
                · intro w hSw; (try dsimp only at hSw); go_simp; (try with_reducible rfl)
                try simp only [Act.put, List.setIfInBounds_toArray, List.set_cons_zero, List.set_cons_succ]
                refine wpAnyH_done (by kernel_rfl) ?_ _
                rotate_left
                all_goals
                  have HR := Lib.hid hR
                  clear hR n11
                  go_wp2_with (go_at_call 37; refine (HSA.out _).mono ?_; rintro e w9 ⟨rfl, hk9⟩; have hR9 := HR.out.no hk9; obtain ⟨x0, x1, x2, x3⟩ := hR9.q.b.cell ht3 (upd_at _ _ _); have f0 := hR9.q.b.free (t * 4); have f1' := hR9.q.b.free (t * 4 + 1); have f2 := hR9.q.b.free (t * 4 + 2); have f3 := hR9.q.b.free (t * 4 + 3); have fl := hR9.q.b.lt; have hY := hR9.setB HA.out ht3 ⟨k, 0, 0, 0⟩; unfold setBp at hY; dsimp only at hY; have HY := Lib.hid hY; clear hR9 hY)
                  go_roundw
                  case rel => exact ⟨n + 1, ⟨M', upd b t ⟨k, 0, 0, 0⟩, f1, O ++ [y'], Gl ++ [ft]⟩, by omega, by go_num, HSL.out, HY.out.1, HY.out.2.1, HY.out.2.2.1, by simp; omega, HY.out.2.2.2⟩
                  case measure => simp [intOf]; omega
              · have hsl := hsl.2 h9
                have hst1 : M'.st = (n : Int) + 1 := hsl.st
                have HST1 := Lib.hid hst1; have HSL := Lib.hid hsl
                clear hsl hst1
                go_wp2_with (go_at_call 26; refine (steps_any a v M' _ HQ.out.t.s.m).mono ?_; rw [HST1.out]; rintro e w8 ⟨rfl, rfl⟩)
                go_roundw
                case rel => exact ⟨n + 1, _, by omega, by go_num, HSL.out, HQ.out, HO7.out, HG7.out, by dsimp only; omega, HGB.out⟩
                case measure => simp [intOf]; omega
            · obtain ⟨x0, x1, x2, x3⟩ := HU.out.b.cell ht3 hb
              have hsl := CI.stepAt (k := k) (by first | decide | exact HKK.out) (show n < 1000 by omega) HC.out ht3 hb (F := fr) (if_neg (by simp))
              have HSL := Lib.hid hsl; have HB := Lib.hid hb; have HU1 := HU; have HO1 := HO; have HG1 := HG
              clear hsl hb fc ff hfl HU HO HG
              clear hf0 hf1
              generalize fr = f1 at *
              go_upto_region 21 with fail
              obtain ⟨wz, hwz⟩ : ∃ wz, wr = wz := ⟨_, rfl⟩
              subst hwz
              clear x0 x1 x2 x3 cn
              generalize hf1t : f1 t = ft at *
              have HFT := Lib.hid hf1t
              clear hf1t
              obtain ⟨M', h', hd⟩ : ∃ M' h', stepB ⟨2, 2, 4, 0, 2⟩ M ⟨k, 1, ft, 0⟩ = (M', h') := ⟨_, _, rfl⟩
              obtain ⟨k', s', x', y'⟩ := h'
              have hsl := HSL.out M' k' s' x' y' hd
              have HD := Lib.hid hd
              clear hd HSL
              obtain ⟨m0, m1, m2, m3, m4⟩ := HBm.out _ HU1.out.t.s.kp
              have hbd := HU1.out.no ((Keeps.refl NoS _).drew)
              have hOd := HO1.out.no ((Keeps.refl NoS _).drew)
              have hGd := HG1.out.no ((Keeps.refl NoS _).drew)
              go_upto_region 22 with (go_at_call 26; refine (steps_any a v M _ HU1.out.t.s.m).mono ?_; rw [HNST.out]; rintro e w6 ⟨rfl, rfl⟩)
              obtain ⟨x0, x1, x2, x3⟩ := HU1.out.b.cell ht3 HB.out
              refine wp_region_kept_drew 8 (fun w' => (w'.cell? ⟨G, t * 4, none⟩ = some (.int .i64 k) ∧ w'.cell? ⟨G, t * 4 + 1, none⟩ = some (.int .i64 1) ∧ w'.cell? ⟨G, t * 4 + 2, none⟩ = some (.int .i64 ft) ∧ w'.cell? ⟨G, t * 4 + 3, none⟩ = some (.int .i64 0)) ∧ (w'.cell? ⟨B, 0, none⟩ = some (.int .i64 2) ∧ w'.cell? ⟨B, 1, none⟩ = some (.int .i64 2) ∧ w'.cell? ⟨B, 2, none⟩ = some (.int .i64 4) ∧ w'.cell? ⟨B, 3, none⟩ = some (.int .i64 0) ∧ w'.cell? ⟨B, 4, none⟩ = some (.int .i64 2))) 8 (fun _ => True) (by kernel_rfl) (⟨⟨x0, x1, x2, x3⟩, ⟨m0, m1, m2, m3, m4⟩⟩) (trivial) (fun hK => ?_)
              refine wpAnyK_take1 (i := 0) (v := ?_) (by simp only [List.getElem?_toArray, List.getElem?_cons_succ, List.getElem?_cons_zero]; rfl) (by kernel_rfl) (by kernel_rfl) (by kernel_rfl) (by kernel_rfl) (by kernel_rfl) (by kernel_rfl) (by exact fun _ _ _ h => h) (Or.inl ⟨by rfl, ?_⟩) (hK _) ?_
              rotate_left
              · intro w hSw; (try dsimp only at hSw); go_simp; (try with_reducible rfl)
              try simp only [Act.put, List.setIfInBounds_toArray, List.set_cons_zero, List.set_cons_succ]
              refine wpAnyK_take1 (i := 1) (v := ?_) (by simp only [List.getElem?_toArray, List.getElem?_cons_succ, List.getElem?_cons_zero]; rfl) (by kernel_rfl) (by kernel_rfl) (by kernel_rfl) (by kernel_rfl) (by kernel_rfl) (by kernel_rfl) (by exact fun _ _ _ h => h) (Or.inl ⟨by rfl, ?_⟩) (hK _) ?_
              rotate_left
              · intro w hSw; (try dsimp only at hSw); go_simp; (try with_reducible rfl)
              try simp only [Act.put, List.setIfInBounds_toArray, List.set_cons_zero, List.set_cons_succ]
              refine wpAnyK_take1 (i := 2) (v := ?_) (by simp only [List.getElem?_toArray, List.getElem?_cons_succ, List.getElem?_cons_zero]; rfl) (by kernel_rfl) (by kernel_rfl) (by kernel_rfl) (by kernel_rfl) (by kernel_rfl) (by kernel_rfl) (by exact fun _ _ _ h => h) (Or.inl ⟨by rfl, ?_⟩) (hK _) ?_
              rotate_left
              · intro w hSw; (try dsimp only at hSw); go_simp; (try with_reducible rfl)
              try simp only [Act.put, List.setIfInBounds_toArray, List.set_cons_zero, List.set_cons_succ]
              refine wpAnyK_take1 (i := 3) (v := ?_) (by simp only [List.getElem?_toArray, List.getElem?_cons_succ, List.getElem?_cons_zero]; rfl) (by kernel_rfl) (by kernel_rfl) (by kernel_rfl) (by kernel_rfl) (by kernel_rfl) (by kernel_rfl) (by exact fun _ _ _ h => h) (Or.inl ⟨by rfl, ?_⟩) (hK _) ?_
              rotate_left
              · intro w hSw; (try dsimp only at hSw); go_simp; (try with_reducible rfl)
              try simp only [Act.put, List.setIfInBounds_toArray, List.set_cons_zero, List.set_cons_succ]
              refine wpAnyK_take1 (i := 4) (v := ?_) (by simp only [List.getElem?_toArray, List.getElem?_cons_succ, List.getElem?_cons_zero]; rfl) (by kernel_rfl) (by kernel_rfl) (by kernel_rfl) (by kernel_rfl) (by kernel_rfl) (by kernel_rfl) (by exact fun _ _ _ h => h) (Or.inl ⟨by rfl, ?_⟩) (hK _) ?_
              rotate_left
              · intro w hSw; (try dsimp only at hSw); go_simp; (try with_reducible rfl)
              try simp only [Act.put, List.setIfInBounds_toArray, List.set_cons_zero, List.set_cons_succ]
              refine wpAnyK_take1 (i := 5) (v := ?_) (by simp only [List.getElem?_toArray, List.getElem?_cons_succ, List.getElem?_cons_zero]; rfl) (by kernel_rfl) (by kernel_rfl) (by kernel_rfl) (by kernel_rfl) (by kernel_rfl) (by kernel_rfl) (by exact fun _ _ _ h => h) (Or.inl ⟨by rfl, ?_⟩) (hK _) ?_
              rotate_left
              · intro w hSw; (try dsimp only at hSw); go_simp; (try with_reducible rfl)
              try simp only [Act.put, List.setIfInBounds_toArray, List.set_cons_zero, List.set_cons_succ]
              refine wpAnyK_one (i := 6) (by kernel_rfl) (by simp only [List.getElem?_toArray, List.getElem?_cons_succ, List.getElem?_cons_zero]; rfl) (fun kC hkC => ?_)
              go_simp
              refine (step_any 2 2 4 0 2 k 1 ft 0 a v M _ hbd.t.s.m).mono ?_; rw [HD.out]; unfold bumpV; dsimp only; rintro e w7 ⟨rfl, hm, hk⟩; have hX7 := hbd.own HA.out hm hk; have hO7 := hOd.ownA HA.out (by omega) hk; have hG7 := hGd.ownA HA.out (by omega) hk; have m7 := HBm.out _ hX7.t.s.kp; have c7 := hX7.b.cell ht3 HB.out; have F0 := hX7.b.free (t * 4); have F1 := hX7.b.free (t * 4 + 1); have F2 := hX7.b.free (t * 4 + 2); have F3 := hX7.b.free (t * 4 + 3); have hl7 := hX7.b.lt; have hQ7 := hX7.setB HA.out t ht3 ⟨k', s', x', y'⟩; have hO8 := hO7.setB t ⟨k', s', x', y'⟩; have hG8 := hG7.setB t ⟨k', s', x', y'⟩; unfold setBp at hQ7 hO8 hG8; dsimp only at hQ7 hO8 hG8; have HQ := Lib.hid hQ7; have HO7 := Lib.hid hO8; have HG7 := Lib.hid hG8; clear hQ7 hO8 hG8 hm hX7 hO7 hG7
              (try go_wp2_with fail)
              refine hkC.out _ _ (⟨c7, m7⟩) (trivial) (fun hK => ?_)
              clear hkC kC
              try simp only [Act.put, List.setIfInBounds_toArray, List.set_cons_zero, List.set_cons_succ]
              refine wpAnyK_take1 (i := 7) (v := ?_) (by simp only [List.getElem?_toArray, List.getElem?_cons_succ, List.getElem?_cons_zero]; rfl) (by kernel_rfl) (by kernel_rfl) (by kernel_rfl) (by kernel_rfl) (by kernel_rfl) (by kernel_rfl) (by exact fun _ _ _ h => h) (Or.inl ⟨by rfl, ?_⟩) (hK _) ?_
              rotate_left
              · intro w hSw; (try dsimp only at hSw); go_simp; (try with_reducible rfl)
              try simp only [Act.put, List.setIfInBounds_toArray, List.set_cons_zero, List.set_cons_succ]
              refine wpAnyK_last (i := 8) (by kernel_rfl) (by simp only [List.getElem?_toArray, List.getElem?_cons_succ, List.getElem?_cons_zero]; rfl) (by kernel_rfl) (by kernel_rfl) (fun kC hkC => ?_)
              go_simp
              refine hkC.out _ _ ?_
              clear hkC kC
              try simp only [Act.put, List.setIfInBounds_toArray, List.set_cons_zero, List.set_cons_succ]
              refine wpAnyK_done (by kernel_rfl) ?_ _
              generalize (((w7.setCell ⟨G, t * 4, none⟩ (.int .i64 k')).setCell ⟨G, t * 4 + 1, none⟩ (.int .i64 s')).setCell ⟨G, t * 4 + 2, none⟩ (.int .i64 x')).setCell ⟨G, t * 4 + 3, none⟩ (.int .i64 y') = wy at *
              clear c7 F0 F1 F2 F3 hl7 x0 x1 x2 x3 m0 m1 m2 m3 m4 hbd hOd hGd m7 hk HU1 HO1 HG1 HD
              obtain ⟨x0, x1, x2, x3⟩ := HQ.out.b.cell ht3 (upd_at _ _ _)
              have hfc := HQ.out.f.cell t ht3
              dsimp only at hfc
              rw [HFT.out] at hfc
              by_cases h9 : s' = 9
              · subst h9
                have hsl := hsl.1 rfl
                have hst1 : M'.st = (n : Int) + 1 := hsl.st
                have HST1 := Lib.hid hst1; have HSL := Lib.hid hsl
                clear hsl hst1
                go_upto_region 26 with (go_at_call 26; refine (steps_any a v M' _ HQ.out.t.s.m).mono ?_; rw [HST1.out]; rintro e w8 ⟨rfl, rfl⟩)
                have hR : R26 W wy.drew a c v u G ⟨M', upd b t ⟨k', 9, x', y'⟩, f1, O, Gl⟩ u17 u18 O Gl t y' ft := ⟨HQ.out.no ((Keeps.refl NoS _).drew), HO7.out.no ((Keeps.refl NoS _).drew), HG7.out.no ((Keeps.refl NoS _).drew), HGB.out, x3, hfc⟩
                clear x0 x1 x2 x3 hfc HQ HO7 HG7
                refine wp_region_held_drew (S := (fun w' => w'.cell? ⟨G, t * 4 + 3, none⟩ = some (.int .i64 y') ∧ w'.cell? ⟨G + 1, t, none⟩ = some (.int .i64 ft))) (by kernel_rfl) (⟨hR.cy, hR.cf⟩) (fun hHeld => ?_)
                generalize wy.drew = wq at *
                refine wpAnyH_take (i := 0) (v := ?_) (by simp only [List.getElem?_toArray, List.getElem?_cons_succ, List.getElem?_cons_zero]; rfl) (by kernel_rfl) (by kernel_rfl) (by kernel_rfl) (by exact fun _ _ _ h => h) (Or.inl ⟨by rfl, ?_⟩) hHeld ?_
                rotate_left
                · intro w hSw; (try dsimp only at hSw); go_simp; (try with_reducible rfl)
                try simp only [Act.put, List.setIfInBounds_toArray, List.set_cons_zero, List.set_cons_succ]
                refine wpAnyH_take (i := 1) (v := ?_) (by simp only [List.getElem?_toArray, List.getElem?_cons_succ, List.getElem?_cons_zero]; rfl) (by kernel_rfl) (by kernel_rfl) (by kernel_rfl) (by exact fun _ _ _ h => h) (Or.inl ⟨by rfl, ?_⟩) hHeld ?_
                rotate_left
                · intro w hSw; (try dsimp only at hSw); go_simp; (try with_reducible rfl)
                try simp only [Act.put, List.setIfInBounds_toArray, List.set_cons_zero, List.set_cons_succ]
                refine wpAnyH_take (i := 2) (v := ?_) (by simp only [List.getElem?_toArray, List.getElem?_cons_succ, List.getElem?_cons_zero]; rfl) (by kernel_rfl) (by kernel_rfl) (by kernel_rfl) (by exact fun _ _ _ h => h) (Or.inl ⟨by rfl, ?_⟩) hHeld ?_
                rotate_left
                · intro w hSw; (try dsimp only at hSw); go_simp; (try with_reducible rfl)
                try simp only [Act.put, List.setIfInBounds_toArray, List.set_cons_zero, List.set_cons_succ]
                refine wpAnyH_take (i := 3) (v := ?_) (by simp only [List.getElem?_toArray, List.getElem?_cons_succ, List.getElem?_cons_zero]; rfl) (by kernel_rfl) (by kernel_rfl) (by kernel_rfl) (by exact fun _ _ _ h => h) (Or.inl ⟨by rfl, ?_⟩) hHeld ?_
                rotate_left
                · intro w hSw; (try dsimp only at hSw); go_simp; (try with_reducible rfl)
                try simp only [Act.put, List.setIfInBounds_toArray, List.set_cons_zero, List.set_cons_succ]
                refine wpAnyH_take (i := 4) (v := ?_) (by simp only [List.getElem?_toArray, List.getElem?_cons_succ, List.getElem?_cons_zero]; rfl) (by kernel_rfl) (by kernel_rfl) (by kernel_rfl) (by exact fun _ _ _ h => h) (Or.inl ⟨by rfl, ?_⟩) hHeld ?_
                rotate_left
                · intro w hSw; (try dsimp only at hSw); go_simp; (try with_reducible rfl)
                try simp only [Act.put, List.setIfInBounds_toArray, List.set_cons_zero, List.set_cons_succ]
                refine wpAnyH_take (i := 7) (v := ?_) (by simp only [List.getElem?_toArray, List.getElem?_cons_succ, List.getElem?_cons_zero]; rfl) (by kernel_rfl) (by kernel_rfl) (by kernel_rfl) (by exact fun _ _ _ h => h) (Or.inl ⟨by rfl, ?_⟩) hHeld ?_
                rotate_left
                · intro w hSw; (try dsimp only at hSw); go_simp; (try with_reducible rfl)
                try simp only [Act.put, List.setIfInBounds_toArray, List.set_cons_zero, List.set_cons_succ]
                refine wpAnyH_take (i := 8) (v := ?_) (by simp only [List.getElem?_toArray, List.getElem?_cons_succ, List.getElem?_cons_zero]; rfl) (by kernel_rfl) (by kernel_rfl) (by kernel_rfl) (by exact fun _ _ _ h => h) (Or.inl ⟨by rfl, ?_⟩) hHeld ?_
                rotate_left
                · intro w hSw; (try dsimp only at hSw); go_simp; (try with_reducible rfl)
                try simp only [Act.put, List.setIfInBounds_toArray, List.set_cons_zero, List.set_cons_succ]
                refine wpAnyH_take (i := 9) (v := ?_) (by simp only [List.getElem?_toArray, List.getElem?_cons_succ, List.getElem?_cons_zero]; rfl) (by kernel_rfl) (by kernel_rfl) (by kernel_rfl) (by exact fun _ _ _ h => h) (Or.inl ⟨by rfl, ?_⟩) hHeld ?_
                rotate_left
                · intro w hSw; (try dsimp only at hSw); go_simp; (try with_reducible rfl)
                try simp only [Act.put, List.setIfInBounds_toArray, List.set_cons_zero, List.set_cons_succ]
                refine wpAnyH_take (i := 10) (v := ?_) (by simp only [List.getElem?_toArray, List.getElem?_cons_succ, List.getElem?_cons_zero]; rfl) (by kernel_rfl) (by kernel_rfl) (by kernel_rfl) (by exact fun _ _ _ h => h) (Or.inl ⟨by rfl, ?_⟩) hHeld ?_
                rotate_left
                · intro w hSw; (try dsimp only at hSw); go_simp; (try with_reducible rfl)
                try simp only [Act.put, List.setIfInBounds_toArray, List.set_cons_zero, List.set_cons_succ]
                refine wpAnyH_ready (rs := [5, 11]) (by kernel_rfl) (by simp) ?_
                refine AllReadyH.cons (by simp only [List.getElem?_toArray, List.getElem?_cons_succ, List.getElem?_cons_zero]; rfl) (fun kC hkC => ?_) (AllReadyH.cons (by simp only [List.getElem?_toArray, List.getElem?_cons_succ, List.getElem?_cons_zero]; rfl) (fun kC hkC => ?_) AllReadyH.nil)
                go_simp
                have n5 := NewC.make hR y'; have hR := hR.no ((Keeps.refl NoS _).alloc (.cells #[.int .i64 y'] 2)); (try have n11 := n11.no ((Keeps.refl NoS _).alloc (.cells #[.int .i64 y'] 2))); obtain ⟨b5, hb5⟩ : ∃ b, wq.heap.size = b := ⟨_, rfl⟩; rw [hb5] at n5 ⊢; clear hb5; generalize wq.alloc (.cells #[.int .i64 y'] 2) = wq at *
                refine hkC.out _ _ ?_ (fun hHeld => ?_)
                · exact (⟨hR.cy, hR.cf⟩)
                clear hkC kC
                try simp only [Act.put, List.setIfInBounds_toArray, List.set_cons_zero, List.set_cons_succ]
                refine wpAnyH_ready (rs := [6, 11]) (by kernel_rfl) (by simp) ?_
                refine AllReadyH.cons (by simp only [List.getElem?_toArray, List.getElem?_cons_succ, List.getElem?_cons_zero]; rfl) (fun kC hkC => ?_) (AllReadyH.cons (by simp only [List.getElem?_toArray, List.getElem?_cons_succ, List.getElem?_cons_zero]; rfl) (fun kC hkC => ?_) AllReadyH.nil)
                (refine step_row HI6.out _ (by rfl) (.tmp 88) (.tmp 93) (by rfl) (G + 2) u17 O (by rfl) hR.o ⟨b5, 0, none⟩ 1 1 [y'] (by rfl) rfl n5.news (by omega) hR.q.f.lt ?_; intro v6 wq hr6 hg6 hb6; (try have n11 := n11.app1 hg6 hb6); have hR := hR.app1 HA.out hr6 hg6 hb6; clear hr6 hg6 hb6)
                refine hkC.out _ _ ?_ (fun hHeld => ?_)
                · exact (⟨hR.cy, hR.cf⟩)
                clear hkC kC
                try simp only [Act.put, List.setIfInBounds_toArray, List.set_cons_zero, List.set_cons_succ]
                refine wpAnyH_ready (rs := [11]) (by kernel_rfl) (by simp) ?_
                refine AllReadyH.cons (by simp only [List.getElem?_toArray, List.getElem?_cons_succ, List.getElem?_cons_zero]; rfl) (fun kC hkC => ?_) AllReadyH.nil
                go_simp
                have n11 := NewC.make hR ft; have hR := hR.no ((Keeps.refl NoS _).alloc (.cells #[.int .i64 ft] 2)); (try have n5 := n5.no ((Keeps.refl NoS _).alloc (.cells #[.int .i64 ft] 2))); obtain ⟨b11, hb11⟩ : ∃ b, wq.heap.size = b := ⟨_, rfl⟩; rw [hb11] at n11 ⊢; clear hb11; generalize wq.alloc (.cells #[.int .i64 ft] 2) = wq at *
                refine hkC.out _ _ ?_ (fun hHeld => ?_)
                · exact (⟨hR.cy, hR.cf⟩)
                clear hkC kC
                try simp only [Act.put, List.setIfInBounds_toArray, List.set_cons_zero, List.set_cons_succ]
                refine wpAnyH_ready (rs := [12]) (by kernel_rfl) (by simp) ?_
                refine AllReadyH.cons (by simp only [List.getElem?_toArray, List.getElem?_cons_succ, List.getElem?_cons_zero]; rfl) (fun kC hkC => ?_) AllReadyH.nil
                (refine step_row HI6.out _ (by rfl) (.tmp 95) (.tmp 99) (by rfl) (G + 2) u18 Gl (by rfl) hR.g ⟨b11, 0, none⟩ 1 1 [ft] (by rfl) rfl n11.news (by omega) hR.q.f.lt ?_; intro v12 wq hr12 hg12 hb12; have hR := hR.app2 HA.out hr12 hg12 hb12; clear hr12 hg12 hb12)
                refine hkC.out _ _ ?_ (fun hHeld => ?_)
                · exact (⟨hR.cy, hR.cf⟩)
                clear hkC kC
                try simp only [Act.put, List.setIfInBounds_toArray, List.set_cons_zero, List.set_cons_succ]
                refine wpAnyH_take (i := 13) (v := ?_) (by simp only [List.getElem?_toArray, List.getElem?_cons_succ, List.getElem?_cons_zero]; rfl) (by kernel_rfl) (by kernel_rfl) (by kernel_rfl) (by exact fun _ _ _ h => h) (Or.inl ⟨by rfl, ?_⟩) hHeld ?_
                rotate_left
                · intro w hSw; (try dsimp only at hSw); go_simp; (try with_reducible rfl)
                try simp only [Act.put, List.setIfInBounds_toArray, List.set_cons_zero, List.set_cons_succ]
                refine wpAnyH_take (i := 14) (v := ?_) (by simp only [List.getElem?_toArray, List.getElem?_cons_succ, List.getElem?_cons_zero]; rfl) (by kernel_rfl) (by kernel_rfl) (by kernel_rfl) (by exact fun _ _ _ h => h) (Or.inl ⟨by rfl, ?_⟩) hHeld ?_
                rotate_left
                · intro w hSw; (try dsimp only at hSw); go_simp; (try with_reducible rfl)
                try simp only [Act.put, List.setIfInBounds_toArray, List.set_cons_zero, List.set_cons_succ]
                refine wpAnyH_done (by kernel_rfl) ?_ _
                rotate_left
                go_simp
                have n11 := NewC.make hR ft; have hR := hR.no ((Keeps.refl NoS _).alloc (.cells #[.int .i64 ft] 2)); (try have n5 := n5.no ((Keeps.refl NoS _).alloc (.cells #[.int .i64 ft] 2))); obtain ⟨b11, hb11⟩ : ∃ b, wq.heap.size = b := ⟨_, rfl⟩; rw [hb11] at n11 ⊢; clear hb11; generalize wq.alloc (.cells #[.int .i64 ft] 2) = wq at *
                refine hkC.out _ _ ?_ (fun hHeld => ?_)
                · exact (⟨hR.cy, hR.cf⟩)
                clear hkC kC
                try simp only [Act.put, List.setIfInBounds_toArray, List.set_cons_zero, List.set_cons_succ]
                refine wpAnyH_ready (rs := [6]) (by kernel_rfl) (by simp) ?_
                refine AllReadyH.cons (by simp only [List.getElem?_toArray, List.getElem?_cons_succ, List.getElem?_cons_zero]; rfl) (fun kC hkC => ?_) AllReadyH.nil
                (refine step_row HI6.out _ (by rfl) (.tmp 88) (.tmp 93) (by rfl) (G + 2) u17 O (by rfl) hR.o ⟨b5, 0, none⟩ 1 1 [y'] (by rfl) rfl n5.news (by omega) hR.q.f.lt ?_; intro v6 wq hr6 hg6 hb6; (try have n11 := n11.app1 hg6 hb6); have hR := hR.app1 HA.out hr6 hg6 hb6; clear hr6 hg6 hb6)
                refine hkC.out _ _ ?_ (fun hHeld => ?_)
                · exact (⟨hR.cy, hR.cf⟩)
                clear hkC kC
                try simp only [Act.put, List.setIfInBounds_toArray, List.set_cons_zero, List.set_cons_succ]
                refine wpAnyH_ready (rs := [12]) (by kernel_rfl) (by simp) ?_
                refine AllReadyH.cons (by simp only [List.getElem?_toArray, List.getElem?_cons_succ, List.getElem?_cons_zero]; rfl) (fun kC hkC => ?_) AllReadyH.nil
                (refine step_row HI6.out _ (by rfl) (.tmp 95) (.tmp 99) (by rfl) (G + 2) u18 Gl (by rfl) hR.g ⟨b11, 0, none⟩ 1 1 [ft] (by rfl) rfl n11.news (by omega) hR.q.f.lt ?_; intro v12 wq hr12 hg12 hb12; have hR := hR.app2 HA.out hr12 hg12 hb12; clear hr12 hg12 hb12)
                refine hkC.out _ _ ?_ (fun hHeld => ?_)
                · exact (⟨hR.cy, hR.cf⟩)
                clear hkC kC
                try simp only [Act.put, List.setIfInBounds_toArray, List.set_cons_zero, List.set_cons_succ]
                refine wpAnyH_take (i := 13) (v := ?_) (by simp only [List.getElem?_toArray, List.getElem?_cons_succ, List.getElem?_cons_zero]; rfl) (by kernel_rfl) (by kernel_rfl) (by kernel_rfl) (by exact fun _ _ _ h => h) (Or.inl ⟨by rfl, ?_⟩) hHeld ?_
                rotate_left
                · intro w hSw; (try dsimp only at hSw); go_simp; (try with_reducible rfl)
                try simp only [Act.put, List.setIfInBounds_toArray, List.set_cons_zero, List.set_cons_succ]
                refine wpAnyH_take (i := 14) (v := ?_) (by simp only [List.getElem?_toArray, List.getElem?_cons_succ, List.getElem?_cons_zero]; rfl) (by kernel_rfl) (by kernel_rfl) (by kernel_rfl) (by exact fun _ _ _ h => h) (Or.inl ⟨by rfl, ?_⟩) hHeld ?_
                rotate_left
                · intro w hSw; (try dsimp only at hSw); go_simp; (try with_reducible rfl)
                try simp only [Act.put, List.setIfInBounds_toArray, List.set_cons_zero, List.set_cons_succ]
                refine wpAnyH_done (by kernel_rfl) ?_ _
                rotate_left
                go_simp
                have n11 := NewC.make hR ft; have hR := hR.no ((Keeps.refl NoS _).alloc (.cells #[.int .i64 ft] 2)); (try have n5 := n5.no ((Keeps.refl NoS _).alloc (.cells #[.int .i64 ft] 2))); obtain ⟨b11, hb11⟩ : ∃ b, wq.heap.size = b := ⟨_, rfl⟩; rw [hb11] at n11 ⊢; clear hb11; generalize wq.alloc (.cells #[.int .i64 ft] 2) = wq at *
                refine hkC.out _ _ ?_ (fun hHeld => ?_)
                · exact (⟨hR.cy, hR.cf⟩)
                clear hkC kC
                try simp only [Act.put, List.setIfInBounds_toArray, List.set_cons_zero, List.set_cons_succ]
                refine wpAnyH_ready (rs := [5]) (by kernel_rfl) (by simp) ?_
                refine AllReadyH.cons (by simp only [List.getElem?_toArray, List.getElem?_cons_succ, List.getElem?_cons_zero]; rfl) (fun kC hkC => ?_) AllReadyH.nil
                go_simp
                have n5 := NewC.make hR y'; have hR := hR.no ((Keeps.refl NoS _).alloc (.cells #[.int .i64 y'] 2)); (try have n11 := n11.no ((Keeps.refl NoS _).alloc (.cells #[.int .i64 y'] 2))); obtain ⟨b5, hb5⟩ : ∃ b, wq.heap.size = b := ⟨_, rfl⟩; rw [hb5] at n5 ⊢; clear hb5; generalize wq.alloc (.cells #[.int .i64 y'] 2) = wq at *
                refine hkC.out _ _ ?_ (fun hHeld => ?_)
                · exact (⟨hR.cy, hR.cf⟩)
                clear hkC kC
                try simp only [Act.put, List.setIfInBounds_toArray, List.set_cons_zero, List.set_cons_succ]
                refine wpAnyH_ready (rs := [6]) (by kernel_rfl) (by simp) ?_
                refine AllReadyH.cons (by simp only [List.getElem?_toArray, List.getElem?_cons_succ, List.getElem?_cons_zero]; rfl) (fun kC hkC => ?_) AllReadyH.nil
                (refine step_row HI6.out _ (by rfl) (.tmp 88) (.tmp 93) (by rfl) (G + 2) u17 O (by rfl) hR.o ⟨b5, 0, none⟩ 1 1 [y'] (by rfl) rfl n5.news (by omega) hR.q.f.lt ?_; intro v6 wq hr6 hg6 hb6; (try have n11 := n11.app1 hg6 hb6); have hR := hR.app1 HA.out hr6 hg6 hb6; clear hr6 hg6 hb6)
                refine hkC.out _ _ ?_ (fun hHeld => ?_)
                · exact (⟨hR.cy, hR.cf⟩)
                clear hkC kC
                try simp only [Act.put, List.setIfInBounds_toArray, List.set_cons_zero, List.set_cons_succ]
                refine wpAnyH_ready (rs := [12]) (by kernel_rfl) (by simp) ?_
                refine AllReadyH.cons (by simp only [List.getElem?_toArray, List.getElem?_cons_succ, List.getElem?_cons_zero]; rfl) (fun kC hkC => ?_) AllReadyH.nil
                (refine step_row HI6.out _ (by rfl) (.tmp 95) (.tmp 99) (by rfl) (G + 2) u18 Gl (by rfl) hR.g ⟨b11, 0, none⟩ 1 1 [ft] (by rfl) rfl n11.news (by omega) hR.q.f.lt ?_; intro v12 wq hr12 hg12 hb12; have hR := hR.app2 HA.out hr12 hg12 hb12; clear hr12 hg12 hb12)
                refine hkC.out _ _ ?_ (fun hHeld => ?_)
                · exact (⟨hR.cy, hR.cf⟩)
                clear hkC kC
                try simp only [Act.put, List.setIfInBounds_toArray, List.set_cons_zero, List.set_cons_succ]
                refine wpAnyH_take (i := 13) (v := ?_) (by simp only [List.getElem?_toArray, List.getElem?_cons_succ, List.getElem?_cons_zero]; rfl) (by kernel_rfl) (by kernel_rfl) (by kernel_rfl) (by exact fun _ _ _ h => h) (Or.inl ⟨by rfl, ?_⟩) hHeld ?_
                rotate_left
                · intro w hSw; (try dsimp only at hSw); go_simp; (try with_reducible rfl)
                try simp only [Act.put, List.setIfInBounds_toArray, List.set_cons_zero, List.set_cons_succ]
                refine wpAnyH_take (i := 14) (v := ?_) (by simp only [List.getElem?_toArray, List.getElem?_cons_succ, List.getElem?_cons_zero]; rfl) (by kernel_rfl) (by kernel_rfl) (by kernel_rfl) (by exact fun _ _ _ h => h) (Or.inl ⟨by rfl, ?_⟩) hHeld ?_
                rotate_left
                · intro w hSw; (try dsimp only at hSw); go_simp; (try with_reducible rfl)
                try simp only [Act.put, List.setIfInBounds_toArray, List.set_cons_zero, List.set_cons_succ]
                refine wpAnyH_done (by kernel_rfl) ?_ _
                rotate_left
                all_goals
                  have HR := Lib.hid hR
                  clear hR n11
                  go_wp2_with (go_at_call 37; refine (HSA.out _).mono ?_; rintro e w9 ⟨rfl, hk9⟩; have hR9 := HR.out.no hk9; obtain ⟨x0, x1, x2, x3⟩ := hR9.q.b.cell ht3 (upd_at _ _ _); have f0 := hR9.q.b.free (t * 4); have f1' := hR9.q.b.free (t * 4 + 1); have f2 := hR9.q.b.free (t * 4 + 2); have f3 := hR9.q.b.free (t * 4 + 3); have fl := hR9.q.b.lt; have hY := hR9.setB HA.out ht3 ⟨k, 0, 0, 0⟩; unfold setBp at hY; dsimp only at hY; have HY := Lib.hid hY; clear hR9 hY)
                  go_roundw
                  case rel => exact ⟨n + 1, ⟨M', upd b t ⟨k, 0, 0, 0⟩, f1, O ++ [y'], Gl ++ [ft]⟩, by omega, by go_num, HSL.out, HY.out.1, HY.out.2.1, HY.out.2.2.1, by simp; omega, HY.out.2.2.2⟩
                  case measure => simp [intOf]; omega
              · have hsl := hsl.2 h9
                have hst1 : M'.st = (n : Int) + 1 := hsl.st
                have HST1 := Lib.hid hst1; have HSL := Lib.hid hsl
                clear hsl hst1
                go_wp2_with (go_at_call 26; refine (steps_any a v M' _ HQ.out.t.s.m).mono ?_; rw [HST1.out]; rintro e w8 ⟨rfl, rfl⟩)
                go_roundw
                case rel => exact ⟨n + 1, _, by omega, by go_num, HSL.out, HQ.out, HO7.out, HG7.out, by dsimp only; omega, HGB.out⟩
                case measure => simp [intOf]; omega
          · obtain rfl : n = L.length := by omega
            have hwA : M.atP 0 = M.word (atK k) := by rw [HAT.out]; exact atP_nat (n := 0) (by rw [HC.out.len]; decide)
            have HWA := Lib.hid hwA
            clear hwA
            go_wp2_with (go_at_call 19; refine (peek_tot a v M 0 _ HU.out.t.s.m).mono ?_; rw [HWA.out]; rintro e w6 ⟨rfl, rfl⟩)
            exact bodyPost_ret (v := .tuple #[u17, u18, .int .i64 (M.word (atK k)), .bool true]) (by simp [results, Try.results35, go_sem]) rfl ⟨⟨M, b, fr, O, Gl⟩, u17, u18, rfl, HC.out, RowI.lower0 HO.out, RowI.lower0 HG.out, hol, HWk.out.trans HU.out.t.s.kp⟩
end Go.Proofs.Ytodaiogefgdcpaa
