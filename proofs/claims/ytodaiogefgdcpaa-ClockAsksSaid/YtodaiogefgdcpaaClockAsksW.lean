/- Each step of any bump, at any words, is what the document says (the walk). -/
import Derived.Test.YtodaiogefgdcpaaClockPlain
namespace Go.Proofs.Ytodaiogefgdcpaa
open Go.RowKit
set_option maxHeartbeats 1000000 in
set_option maxRecDepth 100000 in
theorem likeB_any (k s x y : Int) (w : World) : Calls Try.prog 52 #[.agg #[.int .i64 k, .int .i64 s, .int .i64 x, .int .i64 y], .agg #[.int .i64 k, .int .i64 s, .int .i64 x, .int .i64 y]] w fun e w' => e = .returned (.bool true) ∧ Keeps NoS w w' := by
  go_enter Try.func52, Try.ntmps52
  go_wp2_with fail
  go_ret
  exact ⟨by simp, ((Keeps.refl NoS w).alloc _).alloc _⟩
set_option maxHeartbeats 4000000 in
set_option maxRecDepth 100000 in
theorem stepnil_any (ms ml mt mc md k s x y : Int) (hmy : mayB ⟨ms, ml, mt, mc, md⟩ = true) (w : World) : Calls Try.prog 38 #[.agg #[.int .i64 ms, .int .i64 ml, .int .i64 mt, .int .i64 mc, .int .i64 md], .pointer none, .agg #[.int .i64 k, .int .i64 s, .int .i64 x, .int .i64 y]] w fun e w' => e = .returned (.agg #[.int .i64 k, .int .i64 s, .int .i64 x, .int .i64 y]) ∧ Keeps NoS w w' := by
  have hbx := b3_new w ms ml mt mc md k s x y 25 65
  obtain ⟨sz, hsz⟩ : ∃ sz, sizeP ⟨ms, ml, mt, mc, md⟩ = sz := ⟨_, rfl⟩
  obtain ⟨z0, hz0⟩ : ∃ z0 : Int, z0 = 0 := ⟨_, rfl⟩
  have hM := may_of hmy
  have hb := starts_bd hM
  have hs : sizeP ⟨ms, ml, mt, mc, md⟩ = p7 ⟨ms, ml, mt, mc, md⟩ := by simp [sizeP, hmy]
  have e1 : p1 ⟨ms, ml, mt, mc, md⟩ = 2 + ms := rfl
  have d1 : decide (z0 < sz) = true := decide_eq_true (by omega)
  have hlen : ∀ W, Calls Try.prog 66 #[.pointer none] W fun e w' => e = .returned (.int .i64 z0) ∧ W = w' := fun W => by subst hz0; exact mlen_nil W
  have HLEN := Lib.hid hlen; have HSZ := Lib.hid hsz; have HMY := Lib.hid hmy; have HBX := Lib.hid hbx
  obtain ⟨B, hB⟩ : ∃ B, w.heap.size = B := ⟨_, rfl⟩
  rw [hB] at hbx
  have HBX := Lib.hid hbx; have HB := Lib.hid hB
  clear hlen hz0 hb hs e1 hM hsz hmy hbx hB
  go_enter Try.func38, Try.ntmps38
  go_wp2_with fail
  rw [HB.out]
  have hT0 := HBX.out.drew.two
  refine wp_region_held_drew (S := (fun w' => (w'.cell? ⟨B, 0, none⟩ = some (.int .i64 ms) ∧ w'.cell? ⟨B, 1, none⟩ = some (.int .i64 ml) ∧ w'.cell? ⟨B, 2, none⟩ = some (.int .i64 mt) ∧ w'.cell? ⟨B, 3, none⟩ = some (.int .i64 mc) ∧ w'.cell? ⟨B, 4, none⟩ = some (.int .i64 md)) ∧ (w'.cell? ⟨(B + 1), 0, none⟩ = some (.int .i64 k) ∧ w'.cell? ⟨(B + 1), 1, none⟩ = some (.int .i64 s) ∧ w'.cell? ⟨(B + 1), 2, none⟩ = some (.int .i64 x) ∧ w'.cell? ⟨(B + 1), 3, none⟩ = some (.int .i64 y)))) (by kernel_rfl) (hT0) (fun hHeld => ?_)
  refine wpAnyH_take (i := 0) (v := ?_) (by simp only [List.getElem?_toArray, List.getElem?_cons_succ, List.getElem?_cons_zero]; rfl) (by kernel_rfl) (by kernel_rfl) (by kernel_rfl) (by exact fun _ _ _ h => h) (Or.inl ⟨by rfl, ?_⟩) hHeld ?_
  rotate_left
  · intro w hSw; (try dsimp only at hSw); go_simp; (try with_reducible rfl)
  try simp only [Act.put, List.setIfInBounds_toArray, List.set_cons_zero, List.set_cons_succ]
  refine wpAnyH_ready (rs := [1]) (by kernel_rfl) (by simp) ?_
  refine AllReadyH.cons (by simp only [List.getElem?_toArray, List.getElem?_cons_succ, List.getElem?_cons_zero]; rfl) (fun kC hkC => ?_) AllReadyH.nil
  go_simp
  refine (may_any ⟨ms, ml, mt, mc, md⟩ _).mono ?_; rw [HMY.out]; rintro e w1 ⟨rfl, hk1⟩; have hb1 := HBX.out.drew.no hk1; have hT1 := hb1.two
  (try go_wp2_with fail)
  refine hkC.out _ _ (hT1) (fun hHeld => ?_)
  clear hkC kC
  try simp only [Act.put, List.setIfInBounds_toArray, List.set_cons_zero, List.set_cons_succ]
  refine wpAnyH_take (i := 2) (v := ?_) (by simp only [List.getElem?_toArray, List.getElem?_cons_succ, List.getElem?_cons_zero]; rfl) (by kernel_rfl) (by kernel_rfl) (by kernel_rfl) (by exact fun _ _ _ h => h) (Or.inl ⟨by rfl, ?_⟩) hHeld ?_
  rotate_left
  · intro w hSw; (try dsimp only at hSw); go_simp; (try with_reducible rfl)
  try simp only [Act.put, List.setIfInBounds_toArray, List.set_cons_zero, List.set_cons_succ]
  refine wpAnyH_take (i := 3) (v := ?_) (by simp only [List.getElem?_toArray, List.getElem?_cons_succ, List.getElem?_cons_zero]; rfl) (by kernel_rfl) (by kernel_rfl) (by kernel_rfl) (by exact fun _ _ _ h => h) (Or.inl ⟨by rfl, ?_⟩) hHeld ?_
  rotate_left
  · intro w hSw; (try dsimp only at hSw); go_simp; (try with_reducible rfl)
  try simp only [Act.put, List.setIfInBounds_toArray, List.set_cons_zero, List.set_cons_succ]
  refine wpAnyH_take (i := 4) (v := ?_) (by simp only [List.getElem?_toArray, List.getElem?_cons_succ, List.getElem?_cons_zero]; rfl) (by kernel_rfl) (by kernel_rfl) (by kernel_rfl) (by exact fun _ _ _ h => h) (Or.inl ⟨by rfl, ?_⟩) hHeld ?_
  rotate_left
  · intro w hSw; (try dsimp only at hSw); go_simp; (try with_reducible rfl)
  try simp only [Act.put, List.setIfInBounds_toArray, List.set_cons_zero, List.set_cons_succ]
  refine wpAnyH_take (i := 6) (v := ?_) (by simp only [List.getElem?_toArray, List.getElem?_cons_succ, List.getElem?_cons_zero]; rfl) (by kernel_rfl) (by kernel_rfl) (by kernel_rfl) (by exact fun _ _ _ h => h) (Or.inl ⟨by rfl, ?_⟩) hHeld ?_
  rotate_left
  · intro w hSw; (try dsimp only at hSw); go_simp; (try with_reducible rfl)
  try simp only [Act.put, List.setIfInBounds_toArray, List.set_cons_zero, List.set_cons_succ]
  refine wpAnyH_ready (rs := [5]) (by kernel_rfl) (by simp) ?_
  refine AllReadyH.cons (by simp only [List.getElem?_toArray, List.getElem?_cons_succ, List.getElem?_cons_zero]; rfl) (fun kC hkC => ?_) AllReadyH.nil
  go_simp
  refine (HLEN.out _).mono ?_; rintro e w2 ⟨rfl, rfl⟩
  (try go_wp2_with fail)
  refine hkC.out _ _ (hT1) (fun hHeld => ?_)
  clear hkC kC
  try simp only [Act.put, List.setIfInBounds_toArray, List.set_cons_zero, List.set_cons_succ]
  refine wpAnyH_ready (rs := [7]) (by kernel_rfl) (by simp) ?_
  refine AllReadyH.cons (by simp only [List.getElem?_toArray, List.getElem?_cons_succ, List.getElem?_cons_zero]; rfl) (fun kC hkC => ?_) AllReadyH.nil
  go_simp
  refine (size_lit ms ml mt mc md sz HSZ.out _).mono ?_; rintro e w3 ⟨rfl, hk3⟩; have hb3 := hb1.no hk3; have hT3 := hb3.two
  (try go_wp2_with fail)
  refine hkC.out _ _ (hT3) (fun hHeld => ?_)
  clear hkC kC
  try simp only [Act.put, List.setIfInBounds_toArray, List.set_cons_zero, List.set_cons_succ]
  refine wpAnyH_take (i := 8) (v := ?_) (by simp only [List.getElem?_toArray, List.getElem?_cons_succ, List.getElem?_cons_zero]; rfl) (by kernel_rfl) (by kernel_rfl) (by kernel_rfl) (by exact fun _ _ _ h => h) (Or.inl ⟨by rfl, ?_⟩) hHeld ?_
  rotate_left
  · intro w hSw; (try dsimp only at hSw); go_simp; (try with_reducible rfl)
  try simp only [Act.put, List.setIfInBounds_toArray, List.set_cons_zero, List.set_cons_succ]
  refine wpAnyH_take (i := 9) (v := ?_) (by simp only [List.getElem?_toArray, List.getElem?_cons_succ, List.getElem?_cons_zero]; rfl) (by kernel_rfl) (by kernel_rfl) (by kernel_rfl) (by exact fun _ _ _ h => h) (Or.inl ⟨by rfl, ?_⟩) hHeld ?_
  rotate_left
  · intro w hSw; (try dsimp only at hSw); go_simp; (try with_reducible rfl)
  try simp only [Act.put, List.setIfInBounds_toArray, List.set_cons_zero, List.set_cons_succ]
  refine wpAnyH_take (i := 10) (v := ?_) (by simp only [List.getElem?_toArray, List.getElem?_cons_succ, List.getElem?_cons_zero]; rfl) (by kernel_rfl) (by kernel_rfl) (by kernel_rfl) (by exact fun _ _ _ h => h) (Or.inl ⟨by rfl, ?_⟩) hHeld ?_
  rotate_left
  · intro w hSw; (try dsimp only at hSw); go_simp; (try with_reducible rfl)
  try simp only [Act.put, List.setIfInBounds_toArray, List.set_cons_zero, List.set_cons_succ]
  refine wpAnyH_take (i := 11) (v := undef) (by simp only [List.getElem?_toArray, List.getElem?_cons_succ, List.getElem?_cons_zero]; rfl) (by kernel_rfl) (by kernel_rfl) (by kernel_rfl) (by exact fun _ _ _ h => h) (Or.inr ⟨by rfl, rfl⟩) hHeld ?_
  try simp only [Act.put, List.setIfInBounds_toArray, List.set_cons_zero, List.set_cons_succ]
  refine wpAnyH_take (i := 12) (v := undef) (by simp only [List.getElem?_toArray, List.getElem?_cons_succ, List.getElem?_cons_zero]; rfl) (by kernel_rfl) (by kernel_rfl) (by kernel_rfl) (by exact fun _ _ _ h => h) (Or.inr ⟨by rfl, rfl⟩) hHeld ?_
  try simp only [Act.put, List.setIfInBounds_toArray, List.set_cons_zero, List.set_cons_succ]
  refine wpAnyH_take (i := 13) (v := undef) (by simp only [List.getElem?_toArray, List.getElem?_cons_succ, List.getElem?_cons_zero]; rfl) (by kernel_rfl) (by kernel_rfl) (by kernel_rfl) (by exact fun _ _ _ h => h) (Or.inr ⟨by rfl, rfl⟩) hHeld ?_
  try simp only [Act.put, List.setIfInBounds_toArray, List.set_cons_zero, List.set_cons_succ]
  refine wpAnyH_take (i := 14) (v := ?_) (by simp only [List.getElem?_toArray, List.getElem?_cons_succ, List.getElem?_cons_zero]; rfl) (by kernel_rfl) (by kernel_rfl) (by kernel_rfl) (by exact fun _ _ _ h => h) (Or.inl ⟨by rfl, ?_⟩) hHeld ?_
  rotate_left
  · intro w hSw; (try dsimp only at hSw); go_simp; (try with_reducible rfl)
  try simp only [Act.put, List.setIfInBounds_toArray, List.set_cons_zero, List.set_cons_succ]
  refine wpAnyH_take (i := 15) (v := ?_) (by simp only [List.getElem?_toArray, List.getElem?_cons_succ, List.getElem?_cons_zero]; rfl) (by kernel_rfl) (by kernel_rfl) (by kernel_rfl) (by exact fun _ _ _ h => h) (Or.inl ⟨by rfl, ?_⟩) hHeld ?_
  rotate_left
  · intro w hSw; (try dsimp only at hSw); go_simp; (try with_reducible rfl)
  try simp only [Act.put, List.setIfInBounds_toArray, List.set_cons_zero, List.set_cons_succ]
  refine wpAnyH_take (i := 16) (v := undef) (by simp only [List.getElem?_toArray, List.getElem?_cons_succ, List.getElem?_cons_zero]; rfl) (by kernel_rfl) (by kernel_rfl) (by kernel_rfl) (by exact fun _ _ _ h => h) (Or.inr ⟨by rfl, rfl⟩) hHeld ?_
  try simp only [Act.put, List.setIfInBounds_toArray, List.set_cons_zero, List.set_cons_succ]
  refine wpAnyH_take (i := 17) (v := undef) (by simp only [List.getElem?_toArray, List.getElem?_cons_succ, List.getElem?_cons_zero]; rfl) (by kernel_rfl) (by kernel_rfl) (by kernel_rfl) (by exact fun _ _ _ h => h) (Or.inr ⟨by rfl, rfl⟩) hHeld ?_
  try simp only [Act.put, List.setIfInBounds_toArray, List.set_cons_zero, List.set_cons_succ]
  refine wpAnyH_take (i := 18) (v := undef) (by simp only [List.getElem?_toArray, List.getElem?_cons_succ, List.getElem?_cons_zero]; rfl) (by kernel_rfl) (by kernel_rfl) (by kernel_rfl) (by exact fun _ _ _ h => h) (Or.inr ⟨by rfl, rfl⟩) hHeld ?_
  try simp only [Act.put, List.setIfInBounds_toArray, List.set_cons_zero, List.set_cons_succ]
  refine wpAnyH_take (i := 19) (v := ?_) (by simp only [List.getElem?_toArray, List.getElem?_cons_succ, List.getElem?_cons_zero]; rfl) (by kernel_rfl) (by kernel_rfl) (by kernel_rfl) (by exact fun _ _ _ h => h) (Or.inl ⟨by rfl, ?_⟩) hHeld ?_
  rotate_left
  · intro w hSw; (try dsimp only at hSw); go_simp; (try with_reducible rfl)
  try simp only [Act.put, List.setIfInBounds_toArray, List.set_cons_zero, List.set_cons_succ]
  refine wpAnyH_done (by kernel_rfl) ?_ _
  obtain ⟨⟨m0, m1, m2, m3, m4⟩, ⟨c0, c1, c2, c3⟩, ⟨r0, r1, r2, r3⟩, ⟨f0, f1, f2, f3⟩, ⟨g0, g1, g2, g3⟩, z1, z2⟩ := hb3.facts
  clear hT0 hT1 hT3 hb1 hb3
  go_wp2_with fail
  refine bodyPost_ret (v := .agg #[.int .i64 k, .int .i64 s, .int .i64 x, .int .i64 y]) (by simp [results, Try.results38, go_sem, *]) rfl ⟨rfl, ?_⟩
  repeat (first | (with_reducible exact ((((((Keeps.refl NoS w).alloc _).alloc _).alloc _).drew.trans hk1).trans hk3)) | refine kset HB.out ?_ _ (by show B ≤ _; dsimp only; omega) _)
theorem store_0 (a : Nat) (v : Value) (M : MemS) (x : Int) (w : World) (h : MemAt w a v M) (hi : 0 < M.L.length) : Calls Try.prog 24 #[.pointer (some ⟨a, 0, none⟩), .int .i64 0, .int .i64 x] w fun e w' => e = .returned (.int .i64 0) ∧ MemAt w' a v (M.store 0 x) ∧ Keeps (own2m a v) w w' := store_ok a v M 0 x w h hi
theorem store_1 (a : Nat) (v : Value) (M : MemS) (x : Int) (w : World) (h : MemAt w a v M) (hi : 1 < M.L.length) : Calls Try.prog 24 #[.pointer (some ⟨a, 0, none⟩), .int .i64 1, .int .i64 x] w fun e w' => e = .returned (.int .i64 0) ∧ MemAt w' a v (M.store 1 x) ∧ Keeps (own2m a v) w w' := store_ok a v M 1 x w h hi
theorem rstore_0 (a : Nat) (v : Value) (M : MemS) (x : Int) (w : World) (h : RefAt w a v M) (hi : 0 < M.L.length) : Calls Try.prog 25 #[.pointer (some ⟨a, 0, none⟩), .int .i64 0, .int .i64 x] w fun e w' => e = .returned (.int .i64 0) ∧ RefAt w' a v (M.store 0 x) ∧ Keeps (own2m a v) w w' := rstore_ok a v M 0 x w h hi
theorem rstore_1 (a : Nat) (v : Value) (M : MemS) (x : Int) (w : World) (h : RefAt w a v M) (hi : 1 < M.L.length) : Calls Try.prog 25 #[.pointer (some ⟨a, 0, none⟩), .int .i64 1, .int .i64 x] w fun e w' => e = .returned (.int .i64 0) ∧ RefAt w' a v (M.store 1 x) ∧ Keeps (own2m a v) w w' := rstore_ok a v M 1 x w h hi
theorem TwoT.lift {T U : TypeId} {w W wr : World} {a c : Nat} {v u : Value} {M N : MemS} (h : TwoT T U W wr a c v u M N) (k : Keeps NoS w W) : TwoT T U w wr a c v u M N :=
  ⟨⟨h.s.m, Nat.le_trans k.size h.s.na, fun g e => Nat.le_trans k.size (h.s.nv g e), k.trans h.s.kp⟩, ⟨h.r.m, Nat.le_trans k.size h.r.na, fun g e => Nat.le_trans k.size (h.r.nv g e), k.trans h.r.kp⟩, h.ac, h.vc, h.ua, h.vu⟩
/-- what ClockAsks has at hand -/
structure AskS (w wr : World) (B H a c : Nat) (v u : Value) (M N : MemS) (K S X Y : Int) : Prop where
  t : TwoR w wr a c v u M N
  m : MapAt wr B 2 2 4 0 2
  b : BumpAt wr 65 H K S X Y
structure AskF (w : World) (B H a c : Nat) (v u : Value) : Prop where
  aB : ¬ own2m a v B
  aH : ¬ own2m a v H
  cB : ¬ own2m c u B
  cH : ¬ own2m c u H
  bh : B ≠ H
  hw : w.heap.size ≤ H
theorem AskS.no {w wr w' : World} {B H a c : Nat} {v u : Value} {M N : MemS} {K S X Y : Int} (h : AskS w wr B H a c v u M N K S X Y) (k : Keeps NoS wr w') : AskS w w' B H a c v u M N K S X Y :=
  ⟨h.t.keep k, h.m.keep k (fun f => f), h.b.keep k (fun f => f)⟩
theorem AskS.turnS {w wr w' : World} {B H a c : Nat} {v u : Value} {M N M' : MemS} {K S X Y : Int} (h : AskS w wr B H a c v u M N K S X Y) (hF : AskF w B H a c v u) (hm : MemAt w' a v M') (k : Keeps (own2m a v) wr w') : AskS w w' B H a c v u M' N K S X Y :=
  ⟨h.t.turnS hm k, h.m.keep k hF.aB, h.b.keep k hF.aH⟩
theorem AskS.turnR {w wr w' : World} {B H a c : Nat} {v u : Value} {M N N' : MemS} {K S X Y : Int} (h : AskS w wr B H a c v u M N K S X Y) (hF : AskF w B H a c v u) (hm : RefAt w' c u N') (k : Keeps (own2m c u) wr w') : AskS w w' B H a c v u M N' K S X Y :=
  ⟨h.t.turnR hm k, h.m.keep k hF.cB, h.b.keep k hF.cH⟩
/-- a block elsewhere turns -/
theorem AskS.set {w wr w' : World} {B H a c g : Nat} {v u : Value} {M N : MemS} {K S X Y : Int} (h : AskS w wr B H a c v u M N K S X Y) (hg : w.heap.size ≤ g) (na : ¬ own2m a v g) (nc : ¬ own2m c u g) (gB : B ≠ g) (gH : H ≠ g) (k : Keeps (just g) wr w') : AskS w w' B H a c v u M N K S X Y :=
  ⟨⟨⟨h.t.s.m.keep k (fun e => na (.inl (by have e' : a = g := e; exact e'.symm))) (fun i hi e => na (.inr (by have e' : i = g := e; rw [← e']; exact hi))), h.t.s.na, h.t.s.nv, h.t.s.kp.trans' k (fun i hi e => by have e' : i = g := e; omega)⟩,
    ⟨h.t.r.m.keep k (fun e => nc (.inl (by have e' : c = g := e; exact e'.symm))) (fun i hi e => nc (.inr (by have e' : i = g := e; rw [← e']; exact hi))), h.t.r.na, h.t.r.nv, h.t.s.kp.trans' k (fun i hi e => by have e' : i = g := e; omega)⟩, h.t.ac, h.t.vc, h.t.ua, h.t.vu⟩,
   h.m.keep k gB, h.b.keep k gH⟩
/-- the bump's own block turns -/
theorem AskS.own {w wr w' : World} {B H a c : Nat} {v u : Value} {M N : MemS} {K S X Y K' S' X' Y' : Int} (h : AskS w wr B H a c v u M N K S X Y) (hF : AskF w B H a c v u) (k : Keeps (just H) wr w') (hb : BumpAt w' 65 H K' S' X' Y') : AskS w w' B H a c v u M N K' S' X' Y' :=
  ⟨⟨⟨h.t.s.m.keep k (fun e => hF.aH (.inl (by have e' : a = H := e; exact e'.symm))) (fun i hi e => hF.aH (.inr (by have e' : i = H := e; rw [← e']; exact hi))), h.t.s.na, h.t.s.nv, h.t.s.kp.trans' k (fun i hi e => by have e' : i = H := e; have := hF.hw; omega)⟩,
    ⟨h.t.r.m.keep k (fun e => hF.cH (.inl (by have e' : c = H := e; exact e'.symm))) (fun i hi e => hF.cH (.inr (by have e' : i = H := e; rw [← e']; exact hi))), h.t.r.na, h.t.r.nv, h.t.s.kp.trans' k (fun i hi e => by have e' : i = H := e; have := hF.hw; omega)⟩, h.t.ac, h.t.vc, h.t.ua, h.t.vu⟩,
   h.m.keep k hF.bh, hb⟩
/-- what a new block is apart from -/
theorem AskS.fresh {w wr : World} {B H a c : Nat} {v u : Value} {M N : MemS} {K S X Y : Int} (h : AskS w wr B H a c v u M N K S X Y) : w.heap.size ≤ wr.heap.size ∧ ¬ own2m a v wr.heap.size ∧ ¬ own2m c u wr.heap.size ∧ B ≠ wr.heap.size ∧ H ≠ wr.heap.size :=
  ⟨h.t.s.kp.size, not_own (fun e => by have := blk_lt h.t.s.m.hd; omega) (fun e => by have := h.t.s.m.own_lt e; omega), not_own (fun e => by have := blk_lt h.t.r.m.hd; omega) (fun e => by have := h.t.r.m.own_lt e; omega),
    fun e => by
      have h0 := h.m.1
      have : B < wr.heap.size := World.block_lt_of_cell? wr ⟨B, 0, none⟩ h0
      omega,
    fun e => by have := blk_lt h.b; omega⟩
theorem AskS.bumpNew {w wr : World} {B H a c Hp : Nat} {v u : Value} {M N : MemS} {K S X Y k s x y : Int} {T2 : TypeId} (T : TypeId) (h : AskS w wr B H a c v u M N K S X Y) (hp : BumpAt wr T2 Hp k s x y) :
    BumpAt (wr.alloc (.cells #[.int .i64 0, .int .i64 0, .int .i64 0, .int .i64 0] T)) T wr.heap.size 0 0 0 0 ∧ (w.heap.size ≤ wr.heap.size ∧ ¬ own2m a v wr.heap.size ∧ ¬ own2m c u wr.heap.size ∧ B ≠ wr.heap.size ∧ H ≠ wr.heap.size ∧ Hp ≠ wr.heap.size) ∧
    AskS w (wr.alloc (.cells #[.int .i64 0, .int .i64 0, .int .i64 0, .int .i64 0] T)) B H a c v u M N K S X Y ∧ BumpAt (wr.alloc (.cells #[.int .i64 0, .int .i64 0, .int .i64 0, .int .i64 0] T)) T2 Hp k s x y :=
  ⟨bumpAt_new _ _ _ _ _ _, ⟨h.fresh.1, h.fresh.2.1, h.fresh.2.2.1, h.fresh.2.2.2.1, h.fresh.2.2.2.2, fun e => by have := blk_lt hp; omega⟩, h.no ((Keeps.refl NoS wr).alloc _), hp.keep ((Keeps.refl NoS wr).alloc _) (fun f => f)⟩
theorem AskS.cells {w wr : World} {B H a c : Nat} {v u : Value} {M N : MemS} {K S X Y : Int} (h : AskS w wr B H a c v u M N K S X Y) : (wr.cell? ⟨B, 0, none⟩ = some (.int .i64 2) ∧ wr.cell? ⟨B, 1, none⟩ = some (.int .i64 2) ∧ wr.cell? ⟨B, 2, none⟩ = some (.int .i64 4) ∧ wr.cell? ⟨B, 3, none⟩ = some (.int .i64 0) ∧ wr.cell? ⟨B, 4, none⟩ = some (.int .i64 2)) ∧ (wr.cell? ⟨H, 0, none⟩ = some (.int .i64 K) ∧ wr.cell? ⟨H, 1, none⟩ = some (.int .i64 S) ∧ wr.cell? ⟨H, 2, none⟩ = some (.int .i64 X) ∧ wr.cell? ⟨H, 3, none⟩ = some (.int .i64 Y)) := ⟨h.m, h.b.cells.1⟩
/-- the four cells of a bump's own block -/
def setQ (w : World) (G : Nat) (b : BumpS) : World := (((w.setCell ⟨G, 0, none⟩ (.int .i64 b.k)).setCell ⟨G, 1, none⟩ (.int .i64 b.s)).setCell ⟨G, 2, none⟩ (.int .i64 b.x)).setCell ⟨G, 3, none⟩ (.int .i64 b.y)
theorem setQ_keeps (w : World) (G : Nat) (b : BumpS) : Keeps (just G) w (setQ w G b) :=
  ((((Keeps.refl (just G) w).setCell (p := ⟨G, _, none⟩) (fun _ => rfl) _).setCell (p := ⟨G, _, none⟩) (fun _ => rfl) _).setCell (p := ⟨G, _, none⟩) (fun _ => rfl) _).setCell (p := ⟨G, _, none⟩) (fun _ => rfl) _
theorem BumpAt.setQ {w : World} {T : TypeId} {G : Nat} {k s x y : Int} (h : BumpAt w T G k s x y) (b : BumpS) : BumpAt (setQ w G b) T G b.k b.s b.x b.y := blk_set (blk_set (blk_set (blk_set h 0 _) 1 _) 2 _) 3 _
theorem list4 {L : List Int} (h : L.length = 4) : ∃ a b c d, L = [a, b, c, d] := by
  match L, h with
  | [a, b, c, d], _ => exact ⟨a, b, c, d, rfl⟩
theorem mod_bd (z : Int) (n : Int) (h : 0 < n) : ∃ q, (IntKind.u64.wrap z).tmod n = q ∧ 0 ≤ q ∧ q < n := ⟨_, rfl, (u64_tmod_bd z n (by omega)).1, (u64_tmod_bd z n (by omega)).2⟩
set_option maxHeartbeats 40000000 in
set_option maxRecDepth 100000 in
theorem clockAsks_walk (w : World) (z0 : Int) (_e0 : (Lit.int .i64 z0).wf = true) (z1 : Int) (_e1 : (Lit.int .i64 z1).wf = true) (L : List Int) (hL : L.length = 4) (_f2 : ∀ k, k < L.length → (Lit.int .i64 (L.getD k 0)).wf = true) (near : Bool) (en : Int) (_e4 : (Lit.int .i64 en).wf = true) (ck : Int) (_e5 : (Lit.int .i64 ck).wf = true) :
    Calls Try.prog 11 #[.int .i64 z0, .int .i64 z1, .agg (nums L), .bool near, .int .i64 en, .int .i64 ck] w fun e w' => e = .returned (.bool true) ∧ Keeps NoS w w' := by
  obtain ⟨k0, s0, x0, y0, rfl⟩ := list4 hL
  clear hL _e0 _e1 _f2 _e4 _e5
  show Calls Try.prog 11 #[.int .i64 z0, .int .i64 z1, .agg #[.int .i64 k0, .int .i64 s0, .int .i64 x0, .int .i64 y0], .bool near, .int .i64 en, .int .i64 ck] w _
  obtain ⟨q0, hq0, a0, b0⟩ := mod_bd k0 5 (by omega)
  obtain ⟨q1, hq1, a1, b1⟩ := mod_bd s0 3 (by omega)
  obtain ⟨q2, hq2, a2, b2⟩ := mod_bd x0 2 (by omega)
  obtain ⟨q3, hq3, a3, b3⟩ := mod_bd en 4 (by omega)
  obtain ⟨q4, hq4, a4, b4⟩ := mod_bd ck 4 (by omega)
  obtain ⟨r1, hr1⟩ : ∃ r, wrap64 (z0 + q2) = r := ⟨_, rfl⟩
  have hr1' : IntKind.i64.wrap (z0 + q2) = r1 := (IntWalk.i64_left _).trans hr1
  obtain ⟨q5, hq5, a5, b5⟩ := mod_bd r1 2 (by omega)
  obtain ⟨r2, hr2⟩ : ∃ r, wrap64 (z1 + q5) = r := ⟨_, rfl⟩
  have hr2' : IntKind.i64.wrap (z1 + q5) = r2 := (IntWalk.i64_left _).trans hr2
  clear hr1 hr2
  have hbw := bumpAt_new w 65 k0 s0 x0 y0
  have hkw := (Keeps.refl NoS w).alloc (.cells #[.int .i64 k0, .int .i64 s0, .int .i64 x0, .int .i64 y0] 65)
  have hH0 : w.heap.size < (w.alloc (.cells #[.int .i64 k0, .int .i64 s0, .int .i64 x0, .int .i64 y0] 65)).heap.size := by simp
  go_enter Try.func11, Try.ntmps11
  go_wp2_with fail
  obtain ⟨H, hHe⟩ : ∃ H, w.heap.size = H := ⟨_, rfl⟩
  rw [hHe] at hbw hH0
  (try rw [hHe])
  have hHw : w.heap.size ≤ H := by omega
  clear hHe
  generalize w.alloc (.cells #[.int .i64 k0, .int .i64 s0, .int .i64 x0, .int .i64 y0] 65) = w0 at *
  go_at_call 15
  refine (map8_any _).mono ?_
  rintro e w1 ⟨rfl, hk1⟩
  go_wp2_with fail
  have hB := mapAt_new w1 2 2 4 0 2 25
  have hk1' := (hkw.trans hk1).alloc (.cells #[.int .i64 2, .int .i64 2, .int .i64 4, .int .i64 0, .int .i64 2] 25)
  have hbW := (hbw.keep hk1 (fun f => f)).keep ((Keeps.refl NoS w1).alloc (.cells #[.int .i64 2, .int .i64 2, .int .i64 4, .int .i64 0, .int .i64 2] 25)) (fun f => f)
  obtain ⟨B, hBe⟩ : ∃ B, w1.heap.size = B := ⟨_, rfl⟩
  have hHB : H < B := by rw [← hBe]; exact Nat.lt_of_lt_of_le hH0 hk1.size
  have hBl : B < (w1.alloc (.cells #[.int .i64 2, .int .i64 2, .int .i64 4, .int .i64 0, .int .i64 2] 25)).heap.size := by rw [← hBe]; simp
  rw [hBe] at hB
  (try rw [hBe])
  generalize w1.alloc (.cells #[.int .i64 2, .int .i64 2, .int .i64 4, .int .i64 0, .int .i64 2] 25) = W at *
  refine (both_any 2 2 4 0 2 48 size8 (by decide) (by decide) W).mono ?_
  rintro e w2 ⟨a, c, v, u, rfl, hT⟩
  have hS : AskS w w2 B H a c v u (M0 48) (M0 48) k0 s0 x0 y0 := ⟨hT.lift hk1', hB.keep hT.s.kp (fun f => f), hbW.keep hT.s.kp (fun f => f)⟩
  have hF : AskF w B H a c v u := ⟨not_own (fun e => by have := hT.s.na; omega) (fun e => by have := hT.s.nv B e; omega), not_own (fun e => by have := hT.s.na; omega) (fun e => by have := hT.s.nv H e; omega), not_own (fun e => by have := hT.r.na; omega) (fun e => by have := hT.r.nv B e; omega), not_own (fun e => by have := hT.r.na; omega) (fun e => by have := hT.r.nv H e; omega), by omega, hHw⟩
  have HS := Lib.hid hS; have HF := Lib.hid hF
  have hHl := blk_lt hS.b
  obtain ⟨⟨c0, c1, c2, c3⟩, f0, f1, f2, f3, fz⟩ := hS.b.cells
  clear hk1 hk1' hkw hbw hbW hB hBe hT hS hF hH0
  cases near
  · have HSz := HS
    clear c0 c1 c2 c3 f0 f1 f2 f3 fz
    go_upto_region 10 with fail
    obtain ⟨⟨m0, m1, m2, m3, m4⟩, d0, d1, d2, d3⟩ := HSz.out.cells
    have hl1 : ((M0 48).store 0 z0).L.length = 48 := lenC_store.trans (M0_len 48)
    have hl2 : (((M0 48).store 0 z0).store 1 z1).L.length = 48 := lenC_store.trans hl1
    have HL0 := Lib.hid (show 0 < (M0 48).L.length by rw [M0_len]; decide)
    have HL1 := Lib.hid (show 1 < ((M0 48).store 0 z0).L.length by rw [hl1]; decide)
    obtain ⟨M1, hM1⟩ : ∃ M1, (M0 48).store 0 z0 = M1 := ⟨_, rfl⟩
    obtain ⟨M2, hM2⟩ : ∃ M2, M1.store 1 z1 = M2 := ⟨_, rfl⟩
    rw [hM1, hM2] at hl2
    rw [hM1] at HL1
    obtain ⟨M', b', hst⟩ : ∃ M' b', stepB ⟨2, 2, 4, 0, 2⟩ M2 ⟨k0, s0, x0, y0⟩ = (M', b') := ⟨_, _, rfl⟩
    obtain ⟨K', S', X', Y'⟩ := b'
    have HM1 := Lib.hid hM1; have HM2 := Lib.hid hM2; have HST := Lib.hid hst
    have HL2 := Lib.hid (show sizeP ⟨2, 2, 4, 0, 2⟩ = (M2.L.length : Int) by rw [hl2, size8]; rfl)
    clear hl1 hl2 hM1 hM2 hst
    go_wp2_with (first
      | (go_at_call 50; refine (clock_lit 2 2 4 0 2 0 clk8.1 _).mono ?_; rintro e w3 ⟨rfl, hk3⟩; have HS3 := Lib.hid (HSz.out.no hk3))
      | (go_at_call 24; (with_reducible refine (store_0 a v (M0 48) z0 _ HS3.out.t.s.m HL0.out).mono ?_); rw [HM1.out]; rintro e w4 ⟨rfl, hm, hk⟩; have HS4 := Lib.hid (HS3.out.turnS HF.out hm hk); clear hm hk)
      | (go_at_call 25; (with_reducible refine (rstore_0 c u (M0 48) z0 _ HS4.out.t.r.m HL0.out).mono ?_); rw [HM1.out]; rintro e w5 ⟨rfl, hm, hk⟩; have HS5 := Lib.hid (HS4.out.turnR HF.out hm hk); clear hm hk; obtain ⟨⟨n0, n1, n2, n3, n4⟩, e0, e1, e2, e3⟩ := HS5.out.cells)
      | (go_at_call 36; refine (seq_lit 2 2 4 0 2 1 clk8.2 _).mono ?_; rintro e w6 ⟨rfl, hk6⟩; have HS6 := Lib.hid (HS5.out.no hk6))
      | (go_at_call 24; (with_reducible refine (store_1 a v M1 z1 _ HS6.out.t.s.m HL1.out).mono ?_); rw [HM2.out]; rintro e w7 ⟨rfl, hm, hk⟩; have HS7 := Lib.hid (HS6.out.turnS HF.out hm hk); clear hm hk)
      | (go_at_call 25; (with_reducible refine (rstore_1 c u M1 z1 _ HS7.out.t.r.m HL1.out).mono ?_); rw [HM2.out]; rintro e w8 ⟨rfl, hm, hk⟩; have HS8 := Lib.hid (HS7.out.turnR HF.out hm hk); clear hm hk; obtain ⟨⟨p0, p1, p2, p3, p4⟩, g0, g1, g2, g3⟩ := HS8.out.cells)
      | (go_at_call 38; refine (step_any 2 2 4 0 2 k0 s0 x0 y0 a v M2 _ HS8.out.t.s.m).mono ?_; rw [HST.out]; unfold bumpV; dsimp only; rintro e w9 ⟨rfl, hm, hk⟩; have hS9 := HS8.out.turnS HF.out hm hk; have hp := bumpAt_new w9 65 K' S' X' Y'; have hPF := hS9.fresh; have hSa := hS9.no ((Keeps.refl NoS w9).alloc (.cells #[.int .i64 K', .int .i64 S', .int .i64 X', .int .i64 Y'] 65)); clear hm hk))
    obtain ⟨Hp, hHp⟩ : ∃ Hp, w9.heap.size = Hp := ⟨_, rfl⟩
    rw [hHp] at hp hPF
    (try rw [hHp])
    have hSd := hSa.no ((Keeps.refl NoS _).drew)
    have hpd := hp.keep ((Keeps.refl NoS _).drew) (fun f => f)
    clear hHp m0 m1 m2 m3 m4 d0 d1 d2 d3 n0 n1 n2 n3 n4 e0 e1 e2 e3 p0 p1 p2 p3 p4 g0 g1 g2 g3
    generalize w9.alloc (.cells #[.int .i64 K', .int .i64 S', .int .i64 X', .int .i64 Y'] 65) = wa at *
    have hS := hSd
    have hp := hpd
    refine wp_region_held_drew (S := (fun w' => (w'.cell? ⟨B, 0, none⟩ = some (.int .i64 2) ∧ w'.cell? ⟨B, 1, none⟩ = some (.int .i64 2) ∧ w'.cell? ⟨B, 2, none⟩ = some (.int .i64 4) ∧ w'.cell? ⟨B, 3, none⟩ = some (.int .i64 0) ∧ w'.cell? ⟨B, 4, none⟩ = some (.int .i64 2)) ∧ (w'.cell? ⟨H, 0, none⟩ = some (.int .i64 k0) ∧ w'.cell? ⟨H, 1, none⟩ = some (.int .i64 s0) ∧ w'.cell? ⟨H, 2, none⟩ = some (.int .i64 x0) ∧ w'.cell? ⟨H, 3, none⟩ = some (.int .i64 y0)))) (by kernel_rfl) (hS.cells) (fun hHeld => ?_)
    generalize wa.drew = wd at *
    refine wpAnyH_take (i := 0) (v := ?_) (by simp only [List.getElem?_toArray, List.getElem?_cons_succ, List.getElem?_cons_zero]; rfl) (by kernel_rfl) (by kernel_rfl) (by kernel_rfl) (by exact fun _ _ _ h => h) (Or.inl ⟨by rfl, ?_⟩) hHeld ?_
    rotate_left
    · intro w hSw; (try dsimp only at hSw); go_simp; (try with_reducible rfl)
    try simp only [Act.put, List.setIfInBounds_toArray, List.set_cons_zero, List.set_cons_succ]
    refine wpAnyH_take (i := 2) (v := ?_) (by simp only [List.getElem?_toArray, List.getElem?_cons_succ, List.getElem?_cons_zero]; rfl) (by kernel_rfl) (by kernel_rfl) (by kernel_rfl) (by exact fun _ _ _ h => h) (Or.inl ⟨by rfl, ?_⟩) hHeld ?_
    rotate_left
    · intro w hSw; (try dsimp only at hSw); go_simp; (try with_reducible rfl)
    try simp only [Act.put, List.setIfInBounds_toArray, List.set_cons_zero, List.set_cons_succ]
    refine wpAnyH_take (i := 3) (v := ?_) (by simp only [List.getElem?_toArray, List.getElem?_cons_succ, List.getElem?_cons_zero]; rfl) (by kernel_rfl) (by kernel_rfl) (by kernel_rfl) (by exact fun _ _ _ h => h) (Or.inl ⟨by rfl, ?_⟩) hHeld ?_
    rotate_left
    · intro w hSw; (try dsimp only at hSw); go_simp; (try with_reducible rfl)
    try simp only [Act.put, List.setIfInBounds_toArray, List.set_cons_zero, List.set_cons_succ]
    refine wpAnyH_take (i := 4) (v := ?_) (by simp only [List.getElem?_toArray, List.getElem?_cons_succ, List.getElem?_cons_zero]; rfl) (by kernel_rfl) (by kernel_rfl) (by kernel_rfl) (by exact fun _ _ _ h => h) (Or.inl ⟨by rfl, ?_⟩) hHeld ?_
    rotate_left
    · intro w hSw; (try dsimp only at hSw); go_simp; (try with_reducible rfl)
    try simp only [Act.put, List.setIfInBounds_toArray, List.set_cons_zero, List.set_cons_succ]
    refine wpAnyH_take (i := 5) (v := ?_) (by simp only [List.getElem?_toArray, List.getElem?_cons_succ, List.getElem?_cons_zero]; rfl) (by kernel_rfl) (by kernel_rfl) (by kernel_rfl) (by exact fun _ _ _ h => h) (Or.inl ⟨by rfl, ?_⟩) hHeld ?_
    rotate_left
    · intro w hSw; (try dsimp only at hSw); go_simp; (try with_reducible rfl)
    try simp only [Act.put, List.setIfInBounds_toArray, List.set_cons_zero, List.set_cons_succ]
    refine wpAnyH_take (i := 6) (v := ?_) (by simp only [List.getElem?_toArray, List.getElem?_cons_succ, List.getElem?_cons_zero]; rfl) (by kernel_rfl) (by kernel_rfl) (by kernel_rfl) (by exact fun _ _ _ h => h) (Or.inl ⟨by rfl, ?_⟩) hHeld ?_
    rotate_left
    · intro w hSw; (try dsimp only at hSw); go_simp; (try with_reducible rfl)
    try simp only [Act.put, List.setIfInBounds_toArray, List.set_cons_zero, List.set_cons_succ]
    refine wpAnyH_take (i := 7) (v := ?_) (by simp only [List.getElem?_toArray, List.getElem?_cons_succ, List.getElem?_cons_zero]; rfl) (by kernel_rfl) (by kernel_rfl) (by kernel_rfl) (by exact fun _ _ _ h => h) (Or.inl ⟨by rfl, ?_⟩) hHeld ?_
    rotate_left
    · intro w hSw; (try dsimp only at hSw); go_simp; (try with_reducible rfl)
    try simp only [Act.put, List.setIfInBounds_toArray, List.set_cons_zero, List.set_cons_succ]
    refine wpAnyH_take (i := 8) (v := ?_) (by simp only [List.getElem?_toArray, List.getElem?_cons_succ, List.getElem?_cons_zero]; rfl) (by kernel_rfl) (by kernel_rfl) (by kernel_rfl) (by exact fun _ _ _ h => h) (Or.inl ⟨by rfl, ?_⟩) hHeld ?_
    rotate_left
    · intro w hSw; (try dsimp only at hSw); go_simp; (try with_reducible rfl)
    try simp only [Act.put, List.setIfInBounds_toArray, List.set_cons_zero, List.set_cons_succ]
    refine wpAnyH_take (i := 9) (v := ?_) (by simp only [List.getElem?_toArray, List.getElem?_cons_succ, List.getElem?_cons_zero]; rfl) (by kernel_rfl) (by kernel_rfl) (by kernel_rfl) (by exact fun _ _ _ h => h) (Or.inl ⟨by rfl, ?_⟩) hHeld ?_
    rotate_left
    · intro w hSw; (try dsimp only at hSw); go_simp; (try with_reducible rfl)
    try simp only [Act.put, List.setIfInBounds_toArray, List.set_cons_zero, List.set_cons_succ]
    refine wpAnyH_take (i := 10) (v := ?_) (by simp only [List.getElem?_toArray, List.getElem?_cons_succ, List.getElem?_cons_zero]; rfl) (by kernel_rfl) (by kernel_rfl) (by kernel_rfl) (by exact fun _ _ _ h => h) (Or.inl ⟨by rfl, ?_⟩) hHeld ?_
    rotate_left
    · intro w hSw; (try dsimp only at hSw); go_simp; (try with_reducible rfl)
    try simp only [Act.put, List.setIfInBounds_toArray, List.set_cons_zero, List.set_cons_succ]
    refine wpAnyH_take (i := 11) (v := ?_) (by simp only [List.getElem?_toArray, List.getElem?_cons_succ, List.getElem?_cons_zero]; rfl) (by kernel_rfl) (by kernel_rfl) (by kernel_rfl) (by exact fun _ _ _ h => h) (Or.inl ⟨by rfl, ?_⟩) hHeld ?_
    rotate_left
    · intro w hSw; (try dsimp only at hSw); go_simp; (try with_reducible rfl)
    try simp only [Act.put, List.setIfInBounds_toArray, List.set_cons_zero, List.set_cons_succ]
    refine wpAnyH_ready (rs := [1, 13]) (by kernel_rfl) (by simp) ?_
    refine AllReadyH.cons (by simp only [List.getElem?_toArray, List.getElem?_cons_succ, List.getElem?_cons_zero]; rfl) (fun kC hkC => ?_) (AllReadyH.cons (by simp only [List.getElem?_toArray, List.getElem?_cons_succ, List.getElem?_cons_zero]; rfl) (fun kC hkC => ?_) AllReadyH.nil)
    go_simp
    refine (ref_any ⟨2, 2, 4, 0, 2⟩ _).mono ?_; rintro r wR ⟨rfl, hkR⟩; have hS := hS.no hkR; have hp := hp.keep hkR (fun f => f); (try (have hb := hb.keep hkR (fun f => f))); unfold mapV; dsimp only; (try go_wp2_with fail)
    refine hkC.out _ _ ?_ (fun hHeld => ?_)
    · exact (hS.cells)
    clear hkC kC
    try simp only [Act.put, List.setIfInBounds_toArray, List.set_cons_zero, List.set_cons_succ]
    refine wpAnyH_ready (rs := [12, 13]) (by kernel_rfl) (by simp) ?_
    refine AllReadyH.cons (by simp only [List.getElem?_toArray, List.getElem?_cons_succ, List.getElem?_cons_zero]; rfl) (fun kC hkC => ?_) (AllReadyH.cons (by simp only [List.getElem?_toArray, List.getElem?_cons_succ, List.getElem?_cons_zero]; rfl) (fun kC hkC => ?_) AllReadyH.nil)
    go_simp
    refine (rstep_any 2 2 4 0 2 k0 s0 x0 y0 c u M2 _ hS.t.r.m HL2.out).mono ?_; rw [HST.out]; unfold bumpV; dsimp only; rintro r wT ⟨rfl, hmT, hkT⟩; (try (have hb := hb.keep hkT hN.2.2.1; obtain ⟨⟨b0, b1, b2, b3⟩, o0, o1, o2, o3, oz⟩ := hb.cells)); have hp := hp.keep hkT hPF.2.2.1; have hS := hS.turnR HF.out hmT hkT; (try go_wp2_with fail)
    refine hkC.out _ _ ?_ (fun hHeld => ?_)
    · exact (hS.cells)
    clear hkC kC
    try simp only [Act.put, List.setIfInBounds_toArray, List.set_cons_zero, List.set_cons_succ]
    refine wpAnyH_ready (rs := [13]) (by kernel_rfl) (by simp) ?_
    refine AllReadyH.cons (by simp only [List.getElem?_toArray, List.getElem?_cons_succ, List.getElem?_cons_zero]; rfl) (fun kC hkC => ?_) AllReadyH.nil
    go_simp
    have hS0 := hS; have hp0 := hp; obtain ⟨hb, hN, hS, hp⟩ := hS.bumpNew 85 hp; obtain ⟨⟨b0, b1, b2, b3⟩, o0, o1, o2, o3, oz⟩ := hb.cells
    refine hkC.out _ _ ?_ (fun hHeld => ?_)
    · exact (hS.cells)
    clear hkC kC
    try simp only [Act.put, List.setIfInBounds_toArray, List.set_cons_zero, List.set_cons_succ]
    refine wpAnyH_ready (rs := [14]) (by kernel_rfl) (by simp) ?_
    refine AllReadyH.cons (by simp only [List.getElem?_toArray, List.getElem?_cons_succ, List.getElem?_cons_zero]; rfl) (fun kC hkC => ?_) AllReadyH.nil
    go_simp
    refine hkC.out _ _ ?_ (fun hHeld => ?_)
    · exact ((by first | exact (hS0.no ((Keeps.refl NoS wT).alloc (.cells #[.int .i64 K', .int .i64 S', .int .i64 X', .int .i64 Y'] 85))).cells | exact (hS.set hN.1 hN.2.1 hN.2.2.1 hN.2.2.2.1 hN.2.2.2.2.1 (setQ_keeps wT _ ⟨K', S', X', Y'⟩)).cells))
    clear hkC kC
    try simp only [Act.put, List.setIfInBounds_toArray, List.set_cons_zero, List.set_cons_succ]
    refine wpAnyH_done (by kernel_rfl) ?_ _
    rotate_left
    go_simp
    have hS0 := hS; have hp0 := hp; obtain ⟨hb, hN, hS, hp⟩ := hS.bumpNew 85 hp; obtain ⟨⟨b0, b1, b2, b3⟩, o0, o1, o2, o3, oz⟩ := hb.cells
    refine hkC.out _ _ ?_ (fun hHeld => ?_)
    · exact (hS.cells)
    clear hkC kC
    try simp only [Act.put, List.setIfInBounds_toArray, List.set_cons_zero, List.set_cons_succ]
    refine wpAnyH_ready (rs := [12]) (by kernel_rfl) (by simp) ?_
    refine AllReadyH.cons (by simp only [List.getElem?_toArray, List.getElem?_cons_succ, List.getElem?_cons_zero]; rfl) (fun kC hkC => ?_) AllReadyH.nil
    go_simp
    refine (rstep_any 2 2 4 0 2 k0 s0 x0 y0 c u M2 _ hS.t.r.m HL2.out).mono ?_; rw [HST.out]; unfold bumpV; dsimp only; rintro r wT ⟨rfl, hmT, hkT⟩; (try (have hb := hb.keep hkT hN.2.2.1; obtain ⟨⟨b0, b1, b2, b3⟩, o0, o1, o2, o3, oz⟩ := hb.cells)); have hp := hp.keep hkT hPF.2.2.1; have hS := hS.turnR HF.out hmT hkT; (try go_wp2_with fail)
    refine hkC.out _ _ ?_ (fun hHeld => ?_)
    · exact (hS.cells)
    clear hkC kC
    try simp only [Act.put, List.setIfInBounds_toArray, List.set_cons_zero, List.set_cons_succ]
    refine wpAnyH_ready (rs := [14]) (by kernel_rfl) (by simp) ?_
    refine AllReadyH.cons (by simp only [List.getElem?_toArray, List.getElem?_cons_succ, List.getElem?_cons_zero]; rfl) (fun kC hkC => ?_) AllReadyH.nil
    go_simp
    refine hkC.out _ _ ?_ (fun hHeld => ?_)
    · exact ((by first | exact (hS0.no ((Keeps.refl NoS wT).alloc (.cells #[.int .i64 K', .int .i64 S', .int .i64 X', .int .i64 Y'] 85))).cells | exact (hS.set hN.1 hN.2.1 hN.2.2.1 hN.2.2.2.1 hN.2.2.2.2.1 (setQ_keeps wT _ ⟨K', S', X', Y'⟩)).cells))
    clear hkC kC
    try simp only [Act.put, List.setIfInBounds_toArray, List.set_cons_zero, List.set_cons_succ]
    refine wpAnyH_done (by kernel_rfl) ?_ _
    rotate_left
    go_simp
    have hS0 := hS; have hp0 := hp; obtain ⟨hb, hN, hS, hp⟩ := hS.bumpNew 85 hp; obtain ⟨⟨b0, b1, b2, b3⟩, o0, o1, o2, o3, oz⟩ := hb.cells
    refine hkC.out _ _ ?_ (fun hHeld => ?_)
    · exact (hS.cells)
    clear hkC kC
    try simp only [Act.put, List.setIfInBounds_toArray, List.set_cons_zero, List.set_cons_succ]
    refine wpAnyH_ready (rs := [1]) (by kernel_rfl) (by simp) ?_
    refine AllReadyH.cons (by simp only [List.getElem?_toArray, List.getElem?_cons_succ, List.getElem?_cons_zero]; rfl) (fun kC hkC => ?_) AllReadyH.nil
    go_simp
    refine (ref_any ⟨2, 2, 4, 0, 2⟩ _).mono ?_; rintro r wR ⟨rfl, hkR⟩; have hS := hS.no hkR; have hp := hp.keep hkR (fun f => f); (try (have hb := hb.keep hkR (fun f => f))); unfold mapV; dsimp only; (try go_wp2_with fail)
    refine hkC.out _ _ ?_ (fun hHeld => ?_)
    · exact (hS.cells)
    clear hkC kC
    try simp only [Act.put, List.setIfInBounds_toArray, List.set_cons_zero, List.set_cons_succ]
    refine wpAnyH_ready (rs := [12]) (by kernel_rfl) (by simp) ?_
    refine AllReadyH.cons (by simp only [List.getElem?_toArray, List.getElem?_cons_succ, List.getElem?_cons_zero]; rfl) (fun kC hkC => ?_) AllReadyH.nil
    go_simp
    refine (rstep_any 2 2 4 0 2 k0 s0 x0 y0 c u M2 _ hS.t.r.m HL2.out).mono ?_; rw [HST.out]; unfold bumpV; dsimp only; rintro r wT ⟨rfl, hmT, hkT⟩; (try (have hb := hb.keep hkT hN.2.2.1; obtain ⟨⟨b0, b1, b2, b3⟩, o0, o1, o2, o3, oz⟩ := hb.cells)); have hp := hp.keep hkT hPF.2.2.1; have hS := hS.turnR HF.out hmT hkT; (try go_wp2_with fail)
    refine hkC.out _ _ ?_ (fun hHeld => ?_)
    · exact (hS.cells)
    clear hkC kC
    try simp only [Act.put, List.setIfInBounds_toArray, List.set_cons_zero, List.set_cons_succ]
    refine wpAnyH_ready (rs := [14]) (by kernel_rfl) (by simp) ?_
    refine AllReadyH.cons (by simp only [List.getElem?_toArray, List.getElem?_cons_succ, List.getElem?_cons_zero]; rfl) (fun kC hkC => ?_) AllReadyH.nil
    go_simp
    refine hkC.out _ _ ?_ (fun hHeld => ?_)
    · exact ((by first | exact (hS0.no ((Keeps.refl NoS wT).alloc (.cells #[.int .i64 K', .int .i64 S', .int .i64 X', .int .i64 Y'] 85))).cells | exact (hS.set hN.1 hN.2.1 hN.2.2.1 hN.2.2.2.1 hN.2.2.2.2.1 (setQ_keeps wT _ ⟨K', S', X', Y'⟩)).cells))
    clear hkC kC
    try simp only [Act.put, List.setIfInBounds_toArray, List.set_cons_zero, List.set_cons_succ]
    refine wpAnyH_done (by kernel_rfl) ?_ _
    rotate_left
    all_goals
      first
        | (have hS2 := hS0.no ((Keeps.refl NoS wT).alloc (.cells #[.int .i64 K', .int .i64 S', .int .i64 X', .int .i64 Y'] 85)); have hp2 := hp0.keep ((Keeps.refl NoS wT).alloc (.cells #[.int .i64 K', .int .i64 S', .int .i64 X', .int .i64 Y'] 85)) (fun f => f); have hb2 := bumpAt_new wT 85 K' S' X' Y')
        | (have hS2 := hS.set hN.1 hN.2.1 hN.2.2.1 hN.2.2.2.1 hN.2.2.2.2.1 (setQ_keeps wT _ ⟨K', S', X', Y'⟩); have hp2 := hp.keep (setQ_keeps wT _ ⟨K', S', X', Y'⟩) hN.2.2.2.2.2; have hb2 := hb.setQ ⟨K', S', X', Y'⟩)
      clear hS0 hp0 hS hp hb hN b0 b1 b2 b3 o0 o1 o2 o3 oz hHeld hSd hpd hSa
      have hb := hb2; have hp := hp2; have hS := hS2
      first
        | (obtain ⟨g, hg⟩ : ∃ g, wT.heap.size = g := ⟨_, rfl⟩; rw [hg] at hb; rw [hg])
        | (obtain ⟨g, hg⟩ : ∃ g, wR.heap.size = g := ⟨_, rfl⟩; rw [hg] at hb; rw [hg])
        | (obtain ⟨g, hg⟩ : ∃ g, wd.heap.size = g := ⟨_, rfl⟩; rw [hg] at hb; rw [hg])
      (try rw [hg] at hS)
      (try rw [hg] at hp)
      (try unfold setQ at hS hp hb)
      (try dsimp only at hS)
      (try dsimp only at hp)
      (try dsimp only at hb)
      (try (go_upto_region 16 with fail))
      replace hS := hS.no ((Keeps.refl NoS _).drew)
      replace hp := hp.keep ((Keeps.refl NoS _).drew) (fun f => f)
      replace hb := hb.keep ((Keeps.refl NoS _).drew) (fun f => f)
      obtain ⟨sb, hsb⟩ : ∃ sb, startB en ck = sb := ⟨_, rfl⟩
      obtain ⟨k2, s2, x2, y2⟩ := sb
      have HSB := Lib.hid hsb
      clear hsb hb2 hp2 hS2 hg
      refine wp_region_held_drew (S := (fun w' => (w'.cell? ⟨B, 0, none⟩ = some (.int .i64 2) ∧ w'.cell? ⟨B, 1, none⟩ = some (.int .i64 2) ∧ w'.cell? ⟨B, 2, none⟩ = some (.int .i64 4) ∧ w'.cell? ⟨B, 3, none⟩ = some (.int .i64 0) ∧ w'.cell? ⟨B, 4, none⟩ = some (.int .i64 2)) ∧ (w'.cell? ⟨H, 0, none⟩ = some (.int .i64 k0) ∧ w'.cell? ⟨H, 1, none⟩ = some (.int .i64 s0) ∧ w'.cell? ⟨H, 2, none⟩ = some (.int .i64 x0) ∧ w'.cell? ⟨H, 3, none⟩ = some (.int .i64 y0)) ∧ (w'.cell? ⟨Hp, 0, none⟩ = some (.int .i64 K') ∧ w'.cell? ⟨Hp, 1, none⟩ = some (.int .i64 S') ∧ w'.cell? ⟨Hp, 2, none⟩ = some (.int .i64 X') ∧ w'.cell? ⟨Hp, 3, none⟩ = some (.int .i64 Y')) ∧ (w'.cell? ⟨g, 0, none⟩ = some (.int .i64 K') ∧ w'.cell? ⟨g, 1, none⟩ = some (.int .i64 S') ∧ w'.cell? ⟨g, 2, none⟩ = some (.int .i64 X') ∧ w'.cell? ⟨g, 3, none⟩ = some (.int .i64 Y')))) (by kernel_rfl) (⟨hS.cells.1, hS.cells.2, hp.cells.1, hb.cells.1⟩) (fun hHeld => ?_)
      refine wpAnyH_ready (rs := [0]) (by kernel_rfl) (by simp) ?_
      refine AllReadyH.cons (by simp only [List.getElem?_toArray, List.getElem?_cons_succ, List.getElem?_cons_zero]; rfl) (fun kC hkC => ?_) AllReadyH.nil
      go_simp
      refine (told11_any _).mono ?_; rintro r wA ⟨rfl, hkA⟩; have hS := hS.no hkA; have hp := hp.keep hkA (fun f => f); have hb := hb.keep hkA (fun f => f)
      (try go_wp2_with fail)
      refine hkC.out _ _ (⟨hS.cells.1, hS.cells.2, hp.cells.1, hb.cells.1⟩) (fun hHeld => ?_)
      clear hkC kC
      try simp only [Act.put, List.setIfInBounds_toArray, List.set_cons_zero, List.set_cons_succ]
      refine wpAnyH_take (i := 1) (v := ?_) (by simp only [List.getElem?_toArray, List.getElem?_cons_succ, List.getElem?_cons_zero]; rfl) (by kernel_rfl) (by kernel_rfl) (by kernel_rfl) (by exact fun _ _ _ h => h) (Or.inl ⟨by rfl, ?_⟩) hHeld ?_
      rotate_left
      · intro w hSw; (try dsimp only at hSw); go_simp; (try with_reducible rfl)
      try simp only [Act.put, List.setIfInBounds_toArray, List.set_cons_zero, List.set_cons_succ]
      refine wpAnyH_take (i := 2) (v := ?_) (by simp only [List.getElem?_toArray, List.getElem?_cons_succ, List.getElem?_cons_zero]; rfl) (by kernel_rfl) (by kernel_rfl) (by kernel_rfl) (by exact fun _ _ _ h => h) (Or.inl ⟨by rfl, ?_⟩) hHeld ?_
      rotate_left
      · intro w hSw; (try dsimp only at hSw); go_simp; (try with_reducible rfl)
      try simp only [Act.put, List.setIfInBounds_toArray, List.set_cons_zero, List.set_cons_succ]
      refine wpAnyH_take (i := 3) (v := ?_) (by simp only [List.getElem?_toArray, List.getElem?_cons_succ, List.getElem?_cons_zero]; rfl) (by kernel_rfl) (by kernel_rfl) (by kernel_rfl) (by exact fun _ _ _ h => h) (Or.inl ⟨by rfl, ?_⟩) hHeld ?_
      rotate_left
      · intro w hSw; (try dsimp only at hSw); go_simp; (try with_reducible rfl)
      try simp only [Act.put, List.setIfInBounds_toArray, List.set_cons_zero, List.set_cons_succ]
      refine wpAnyH_ready (rs := [4]) (by kernel_rfl) (by simp) ?_
      refine AllReadyH.cons (by simp only [List.getElem?_toArray, List.getElem?_cons_succ, List.getElem?_cons_zero]; rfl) (fun kC hkC => ?_) AllReadyH.nil
      go_simp
      refine (likeB_any K' S' X' Y' _).mono ?_; rintro r wB ⟨rfl, hkB⟩; have hS := hS.no hkB; have hp := hp.keep hkB (fun f => f); have hb := hb.keep hkB (fun f => f)
      (try go_wp2_with fail)
      refine hkC.out _ _ (⟨hS.cells.1, hS.cells.2, hp.cells.1, hb.cells.1⟩) (fun hHeld => ?_)
      clear hkC kC
      try simp only [Act.put, List.setIfInBounds_toArray, List.set_cons_zero, List.set_cons_succ]
      refine wpAnyH_take (i := 5) (v := ?_) (by simp only [List.getElem?_toArray, List.getElem?_cons_succ, List.getElem?_cons_zero]; rfl) (by kernel_rfl) (by kernel_rfl) (by kernel_rfl) (by exact fun _ _ _ h => h) (Or.inl ⟨by rfl, ?_⟩) hHeld ?_
      rotate_left
      · intro w hSw; (try dsimp only at hSw); go_simp; (try with_reducible rfl)
      try simp only [Act.put, List.setIfInBounds_toArray, List.set_cons_zero, List.set_cons_succ]
      refine wpAnyH_take (i := 6) (v := ?_) (by simp only [List.getElem?_toArray, List.getElem?_cons_succ, List.getElem?_cons_zero]; rfl) (by kernel_rfl) (by kernel_rfl) (by kernel_rfl) (by exact fun _ _ _ h => h) (Or.inl ⟨by rfl, ?_⟩) hHeld ?_
      rotate_left
      · intro w hSw; (try dsimp only at hSw); go_simp; (try with_reducible rfl)
      try simp only [Act.put, List.setIfInBounds_toArray, List.set_cons_zero, List.set_cons_succ]
      refine wpAnyH_take (i := 7) (v := ?_) (by simp only [List.getElem?_toArray, List.getElem?_cons_succ, List.getElem?_cons_zero]; rfl) (by kernel_rfl) (by kernel_rfl) (by kernel_rfl) (by exact fun _ _ _ h => h) (Or.inl ⟨by rfl, ?_⟩) hHeld ?_
      rotate_left
      · intro w hSw; (try dsimp only at hSw); go_simp; (try with_reducible rfl)
      try simp only [Act.put, List.setIfInBounds_toArray, List.set_cons_zero, List.set_cons_succ]
      refine wpAnyH_take (i := 8) (v := ?_) (by simp only [List.getElem?_toArray, List.getElem?_cons_succ, List.getElem?_cons_zero]; rfl) (by kernel_rfl) (by kernel_rfl) (by kernel_rfl) (by exact fun _ _ _ h => h) (Or.inl ⟨by rfl, ?_⟩) hHeld ?_
      rotate_left
      · intro w hSw; (try dsimp only at hSw); go_simp; (try with_reducible rfl)
      try simp only [Act.put, List.setIfInBounds_toArray, List.set_cons_zero, List.set_cons_succ]
      refine wpAnyH_ready (rs := [9]) (by kernel_rfl) (by simp) ?_
      refine AllReadyH.cons (by simp only [List.getElem?_toArray, List.getElem?_cons_succ, List.getElem?_cons_zero]; rfl) (fun kC hkC => ?_) AllReadyH.nil
      go_simp
      refine (same_any a c v u M' M' _ hS.t.s.m hS.t.r.m rfl).mono ?_; rintro r wC ⟨rfl, hkC'⟩; have hS := hS.no hkC'; have hp := hp.keep hkC' (fun f => f); have hb := hb.keep hkC' (fun f => f)
      (try go_wp2_with fail)
      refine hkC.out _ _ (⟨hS.cells.1, hS.cells.2, hp.cells.1, hb.cells.1⟩) (fun hHeld => ?_)
      clear hkC kC
      try simp only [Act.put, List.setIfInBounds_toArray, List.set_cons_zero, List.set_cons_succ]
      refine wpAnyH_take (i := 10) (v := ?_) (by simp only [List.getElem?_toArray, List.getElem?_cons_succ, List.getElem?_cons_zero]; rfl) (by kernel_rfl) (by kernel_rfl) (by kernel_rfl) (by exact fun _ _ _ h => h) (Or.inl ⟨by rfl, ?_⟩) hHeld ?_
      rotate_left
      · intro w hSw; (try dsimp only at hSw); go_simp; (try with_reducible rfl)
      try simp only [Act.put, List.setIfInBounds_toArray, List.set_cons_zero, List.set_cons_succ]
      refine wpAnyH_take (i := 11) (v := ?_) (by simp only [List.getElem?_toArray, List.getElem?_cons_succ, List.getElem?_cons_zero]; rfl) (by kernel_rfl) (by kernel_rfl) (by kernel_rfl) (by exact fun _ _ _ h => h) (Or.inl ⟨by rfl, ?_⟩) hHeld ?_
      rotate_left
      · intro w hSw; (try dsimp only at hSw); go_simp; (try with_reducible rfl)
      try simp only [Act.put, List.setIfInBounds_toArray, List.set_cons_zero, List.set_cons_succ]
      refine wpAnyH_take (i := 12) (v := ?_) (by simp only [List.getElem?_toArray, List.getElem?_cons_succ, List.getElem?_cons_zero]; rfl) (by kernel_rfl) (by kernel_rfl) (by kernel_rfl) (by exact fun _ _ _ h => h) (Or.inl ⟨by rfl, ?_⟩) hHeld ?_
      rotate_left
      · intro w hSw; (try dsimp only at hSw); go_simp; (try with_reducible rfl)
      try simp only [Act.put, List.setIfInBounds_toArray, List.set_cons_zero, List.set_cons_succ]
      refine wpAnyH_take (i := 13) (v := ?_) (by simp only [List.getElem?_toArray, List.getElem?_cons_succ, List.getElem?_cons_zero]; rfl) (by kernel_rfl) (by kernel_rfl) (by kernel_rfl) (by exact fun _ _ _ h => h) (Or.inl ⟨by rfl, ?_⟩) hHeld ?_
      rotate_left
      · intro w hSw; (try dsimp only at hSw); go_simp; (try with_reducible rfl)
      try simp only [Act.put, List.setIfInBounds_toArray, List.set_cons_zero, List.set_cons_succ]
      refine wpAnyH_ready (rs := [14]) (by kernel_rfl) (by simp) ?_
      refine AllReadyH.cons (by simp only [List.getElem?_toArray, List.getElem?_cons_succ, List.getElem?_cons_zero]; rfl) (fun kC hkC => ?_) AllReadyH.nil
      go_simp
      refine (like_keep w _ a c v u M' hS.t).mono ?_; rintro r wD ⟨rfl, _, hkD⟩; have hS := hS.no hkD; have hp := hp.keep hkD (fun f => f); have hb := hb.keep hkD (fun f => f)
      (try go_wp2_with fail)
      refine hkC.out _ _ (⟨hS.cells.1, hS.cells.2, hp.cells.1, hb.cells.1⟩) (fun hHeld => ?_)
      clear hkC kC
      try simp only [Act.put, List.setIfInBounds_toArray, List.set_cons_zero, List.set_cons_succ]
      refine wpAnyH_take (i := 15) (v := ?_) (by simp only [List.getElem?_toArray, List.getElem?_cons_succ, List.getElem?_cons_zero]; rfl) (by kernel_rfl) (by kernel_rfl) (by kernel_rfl) (by exact fun _ _ _ h => h) (Or.inl ⟨by rfl, ?_⟩) hHeld ?_
      rotate_left
      · intro w hSw; (try dsimp only at hSw); go_simp; (try with_reducible rfl)
      try simp only [Act.put, List.setIfInBounds_toArray, List.set_cons_zero, List.set_cons_succ]
      refine wpAnyH_take (i := 16) (v := ?_) (by simp only [List.getElem?_toArray, List.getElem?_cons_succ, List.getElem?_cons_zero]; rfl) (by kernel_rfl) (by kernel_rfl) (by kernel_rfl) (by exact fun _ _ _ h => h) (Or.inl ⟨by rfl, ?_⟩) hHeld ?_
      rotate_left
      · intro w hSw; (try dsimp only at hSw); go_simp; (try with_reducible rfl)
      try simp only [Act.put, List.setIfInBounds_toArray, List.set_cons_zero, List.set_cons_succ]
      refine wpAnyH_take (i := 17) (v := ?_) (by simp only [List.getElem?_toArray, List.getElem?_cons_succ, List.getElem?_cons_zero]; rfl) (by kernel_rfl) (by kernel_rfl) (by kernel_rfl) (by exact fun _ _ _ h => h) (Or.inl ⟨by rfl, ?_⟩) hHeld ?_
      rotate_left
      · intro w hSw; (try dsimp only at hSw); go_simp; (try with_reducible rfl)
      try simp only [Act.put, List.setIfInBounds_toArray, List.set_cons_zero, List.set_cons_succ]
      refine wpAnyH_take (i := 18) (v := ?_) (by simp only [List.getElem?_toArray, List.getElem?_cons_succ, List.getElem?_cons_zero]; rfl) (by kernel_rfl) (by kernel_rfl) (by kernel_rfl) (by exact fun _ _ _ h => h) (Or.inl ⟨by rfl, ?_⟩) hHeld ?_
      rotate_left
      · intro w hSw; (try dsimp only at hSw); go_simp; (try with_reducible rfl)
      try simp only [Act.put, List.setIfInBounds_toArray, List.set_cons_zero, List.set_cons_succ]
      refine wpAnyH_take (i := 20) (v := ?_) (by simp only [List.getElem?_toArray, List.getElem?_cons_succ, List.getElem?_cons_zero]; rfl) (by kernel_rfl) (by kernel_rfl) (by kernel_rfl) (by exact fun _ _ _ h => h) (Or.inl ⟨by rfl, ?_⟩) hHeld ?_
      rotate_left
      · intro w hSw; (try dsimp only at hSw); go_simp; (try with_reducible rfl)
      try simp only [Act.put, List.setIfInBounds_toArray, List.set_cons_zero, List.set_cons_succ]
      refine wpAnyH_take (i := 21) (v := ?_) (by simp only [List.getElem?_toArray, List.getElem?_cons_succ, List.getElem?_cons_zero]; rfl) (by kernel_rfl) (by kernel_rfl) (by kernel_rfl) (by exact fun _ _ _ h => h) (Or.inl ⟨by rfl, ?_⟩) hHeld ?_
      rotate_left
      · intro w hSw; (try dsimp only at hSw); go_simp; (try with_reducible rfl)
      try simp only [Act.put, List.setIfInBounds_toArray, List.set_cons_zero, List.set_cons_succ]
      refine wpAnyH_ready (rs := [19]) (by kernel_rfl) (by simp) ?_
      refine AllReadyH.cons (by simp only [List.getElem?_toArray, List.getElem?_cons_succ, List.getElem?_cons_zero]; rfl) (fun kC hkC => ?_) AllReadyH.nil
      go_simp
      refine (start_any en ck _).mono ?_; rw [HSB.out]; unfold bumpV; dsimp only; rintro r wE ⟨rfl, hkE⟩; have hS := hS.no hkE; have hp := hp.keep hkE (fun f => f); have hb := hb.keep hkE (fun f => f)
      (try go_wp2_with fail)
      refine hkC.out _ _ (⟨hS.cells.1, hS.cells.2, hp.cells.1, hb.cells.1⟩) (fun hHeld => ?_)
      clear hkC kC
      try simp only [Act.put, List.setIfInBounds_toArray, List.set_cons_zero, List.set_cons_succ]
      refine wpAnyH_ready (rs := [22]) (by kernel_rfl) (by simp) ?_
      refine AllReadyH.cons (by simp only [List.getElem?_toArray, List.getElem?_cons_succ, List.getElem?_cons_zero]; rfl) (fun kC hkC => ?_) AllReadyH.nil
      go_simp
      refine (rstart_any en ck _).mono ?_; rw [HSB.out]; unfold bumpV; dsimp only; rintro r wF ⟨rfl, hkF⟩; have hS := hS.no hkF; have hp := hp.keep hkF (fun f => f); have hb := hb.keep hkF (fun f => f)
      (try go_wp2_with fail)
      refine hkC.out _ _ (⟨hS.cells.1, hS.cells.2, hp.cells.1, hb.cells.1⟩) (fun hHeld => ?_)
      clear hkC kC
      try simp only [Act.put, List.setIfInBounds_toArray, List.set_cons_zero, List.set_cons_succ]
      refine wpAnyH_ready (rs := [23]) (by kernel_rfl) (by simp) ?_
      refine AllReadyH.cons (by simp only [List.getElem?_toArray, List.getElem?_cons_succ, List.getElem?_cons_zero]; rfl) (fun kC hkC => ?_) AllReadyH.nil
      go_simp
      refine (likeB_any k2 s2 x2 y2 _).mono ?_; rintro r wG ⟨rfl, hkG⟩; have hS := hS.no hkG; have hp := hp.keep hkG (fun f => f); have hb := hb.keep hkG (fun f => f)
      (try go_wp2_with fail)
      refine hkC.out _ _ (⟨hS.cells.1, hS.cells.2, hp.cells.1, hb.cells.1⟩) (fun hHeld => ?_)
      clear hkC kC
      try simp only [Act.put, List.setIfInBounds_toArray, List.set_cons_zero, List.set_cons_succ]
      refine wpAnyH_take (i := 24) (v := ?_) (by simp only [List.getElem?_toArray, List.getElem?_cons_succ, List.getElem?_cons_zero]; rfl) (by kernel_rfl) (by kernel_rfl) (by kernel_rfl) (by exact fun _ _ _ h => h) (Or.inl ⟨by rfl, ?_⟩) hHeld ?_
      rotate_left
      · intro w hSw; (try dsimp only at hSw); go_simp; (try with_reducible rfl)
      try simp only [Act.put, List.setIfInBounds_toArray, List.set_cons_zero, List.set_cons_succ]
      refine wpAnyH_take (i := 25) (v := ?_) (by simp only [List.getElem?_toArray, List.getElem?_cons_succ, List.getElem?_cons_zero]; rfl) (by kernel_rfl) (by kernel_rfl) (by kernel_rfl) (by exact fun _ _ _ h => h) (Or.inl ⟨by rfl, ?_⟩) hHeld ?_
      rotate_left
      · intro w hSw; (try dsimp only at hSw); go_simp; (try with_reducible rfl)
      try simp only [Act.put, List.setIfInBounds_toArray, List.set_cons_zero, List.set_cons_succ]
      refine wpAnyH_take (i := 26) (v := ?_) (by simp only [List.getElem?_toArray, List.getElem?_cons_succ, List.getElem?_cons_zero]; rfl) (by kernel_rfl) (by kernel_rfl) (by kernel_rfl) (by exact fun _ _ _ h => h) (Or.inl ⟨by rfl, ?_⟩) hHeld ?_
      rotate_left
      · intro w hSw; (try dsimp only at hSw); go_simp; (try with_reducible rfl)
      try simp only [Act.put, List.setIfInBounds_toArray, List.set_cons_zero, List.set_cons_succ]
      refine wpAnyH_take (i := 27) (v := ?_) (by simp only [List.getElem?_toArray, List.getElem?_cons_succ, List.getElem?_cons_zero]; rfl) (by kernel_rfl) (by kernel_rfl) (by kernel_rfl) (by exact fun _ _ _ h => h) (Or.inl ⟨by rfl, ?_⟩) hHeld ?_
      rotate_left
      · intro w hSw; (try dsimp only at hSw); go_simp; (try with_reducible rfl)
      try simp only [Act.put, List.setIfInBounds_toArray, List.set_cons_zero, List.set_cons_succ]
      refine wpAnyH_take (i := 29) (v := ?_) (by simp only [List.getElem?_toArray, List.getElem?_cons_succ, List.getElem?_cons_zero]; rfl) (by kernel_rfl) (by kernel_rfl) (by kernel_rfl) (by exact fun _ _ _ h => h) (Or.inl ⟨by rfl, ?_⟩) hHeld ?_
      rotate_left
      · intro w hSw; (try dsimp only at hSw); go_simp; (try with_reducible rfl)
      try simp only [Act.put, List.setIfInBounds_toArray, List.set_cons_zero, List.set_cons_succ]
      refine wpAnyH_ready (rs := [28]) (by kernel_rfl) (by simp) ?_
      refine AllReadyH.cons (by simp only [List.getElem?_toArray, List.getElem?_cons_succ, List.getElem?_cons_zero]; rfl) (fun kC hkC => ?_) AllReadyH.nil
      go_simp
      refine (stepnil_any 2 2 4 0 2 k0 s0 x0 y0 (by decide) _).mono ?_; rintro r wI ⟨rfl, hkI⟩; have hS := hS.no hkI; have hp := hp.keep hkI (fun f => f); have hb := hb.keep hkI (fun f => f)
      (try go_wp2_with fail)
      refine hkC.out _ _ (⟨hS.cells.1, hS.cells.2, hp.cells.1, hb.cells.1⟩) (fun hHeld => ?_)
      clear hkC kC
      try simp only [Act.put, List.setIfInBounds_toArray, List.set_cons_zero, List.set_cons_succ]
      refine wpAnyH_take (i := 30) (v := ?_) (by simp only [List.getElem?_toArray, List.getElem?_cons_succ, List.getElem?_cons_zero]; rfl) (by kernel_rfl) (by kernel_rfl) (by kernel_rfl) (by exact fun _ _ _ h => h) (Or.inl ⟨by rfl, ?_⟩) hHeld ?_
      rotate_left
      · intro w hSw; (try dsimp only at hSw); go_simp; (try with_reducible rfl)
      try simp only [Act.put, List.setIfInBounds_toArray, List.set_cons_zero, List.set_cons_succ]
      refine wpAnyH_take (i := 31) (v := ?_) (by simp only [List.getElem?_toArray, List.getElem?_cons_succ, List.getElem?_cons_zero]; rfl) (by kernel_rfl) (by kernel_rfl) (by kernel_rfl) (by exact fun _ _ _ h => h) (Or.inl ⟨by rfl, ?_⟩) hHeld ?_
      rotate_left
      · intro w hSw; (try dsimp only at hSw); go_simp; (try with_reducible rfl)
      try simp only [Act.put, List.setIfInBounds_toArray, List.set_cons_zero, List.set_cons_succ]
      refine wpAnyH_take (i := 32) (v := ?_) (by simp only [List.getElem?_toArray, List.getElem?_cons_succ, List.getElem?_cons_zero]; rfl) (by kernel_rfl) (by kernel_rfl) (by kernel_rfl) (by exact fun _ _ _ h => h) (Or.inl ⟨by rfl, ?_⟩) hHeld ?_
      rotate_left
      · intro w hSw; (try dsimp only at hSw); go_simp; (try with_reducible rfl)
      try simp only [Act.put, List.setIfInBounds_toArray, List.set_cons_zero, List.set_cons_succ]
      refine wpAnyH_take (i := 33) (v := ?_) (by simp only [List.getElem?_toArray, List.getElem?_cons_succ, List.getElem?_cons_zero]; rfl) (by kernel_rfl) (by kernel_rfl) (by kernel_rfl) (by exact fun _ _ _ h => h) (Or.inl ⟨by rfl, ?_⟩) hHeld ?_
      rotate_left
      · intro w hSw; (try dsimp only at hSw); go_simp; (try with_reducible rfl)
      try simp only [Act.put, List.setIfInBounds_toArray, List.set_cons_zero, List.set_cons_succ]
      refine wpAnyH_take (i := 34) (v := ?_) (by simp only [List.getElem?_toArray, List.getElem?_cons_succ, List.getElem?_cons_zero]; rfl) (by kernel_rfl) (by kernel_rfl) (by kernel_rfl) (by exact fun _ _ _ h => h) (Or.inl ⟨by rfl, ?_⟩) hHeld ?_
      rotate_left
      · intro w hSw; (try dsimp only at hSw); go_simp; (try with_reducible rfl)
      try simp only [Act.put, List.setIfInBounds_toArray, List.set_cons_zero, List.set_cons_succ]
      refine wpAnyH_take (i := 36) (v := ?_) (by simp only [List.getElem?_toArray, List.getElem?_cons_succ, List.getElem?_cons_zero]; rfl) (by kernel_rfl) (by kernel_rfl) (by kernel_rfl) (by exact fun _ _ _ h => h) (Or.inl ⟨by rfl, ?_⟩) hHeld ?_
      rotate_left
      · intro w hSw; (try dsimp only at hSw); go_simp; (try with_reducible rfl)
      try simp only [Act.put, List.setIfInBounds_toArray, List.set_cons_zero, List.set_cons_succ]
      refine wpAnyH_take (i := 37) (v := ?_) (by simp only [List.getElem?_toArray, List.getElem?_cons_succ, List.getElem?_cons_zero]; rfl) (by kernel_rfl) (by kernel_rfl) (by kernel_rfl) (by exact fun _ _ _ h => h) (Or.inl ⟨by rfl, ?_⟩) hHeld ?_
      rotate_left
      · intro w hSw; (try dsimp only at hSw); go_simp; (try with_reducible rfl)
      try simp only [Act.put, List.setIfInBounds_toArray, List.set_cons_zero, List.set_cons_succ]
      refine wpAnyH_take (i := 38) (v := ?_) (by simp only [List.getElem?_toArray, List.getElem?_cons_succ, List.getElem?_cons_zero]; rfl) (by kernel_rfl) (by kernel_rfl) (by kernel_rfl) (by exact fun _ _ _ h => h) (Or.inl ⟨by rfl, ?_⟩) hHeld ?_
      rotate_left
      · intro w hSw; (try dsimp only at hSw); go_simp; (try with_reducible rfl)
      try simp only [Act.put, List.setIfInBounds_toArray, List.set_cons_zero, List.set_cons_succ]
      refine wpAnyH_ready (rs := [35]) (by kernel_rfl) (by simp) ?_
      refine AllReadyH.cons (by simp only [List.getElem?_toArray, List.getElem?_cons_succ, List.getElem?_cons_zero]; rfl) (fun kC hkC => ?_) AllReadyH.nil
      go_simp
      refine (over_any z0 z1 _).mono ?_; rintro r wJ ⟨rfl, rfl⟩
      (try go_wp2_with fail)
      refine hkC.out _ _ (⟨hS.cells.1, hS.cells.2, hp.cells.1, hb.cells.1⟩) (fun hHeld => ?_)
      clear hkC kC
      try simp only [Act.put, List.setIfInBounds_toArray, List.set_cons_zero, List.set_cons_succ]
      refine wpAnyH_take (i := 39) (v := ?_) (by simp only [List.getElem?_toArray, List.getElem?_cons_succ, List.getElem?_cons_zero]; rfl) (by kernel_rfl) (by kernel_rfl) (by kernel_rfl) (by exact fun _ _ _ h => h) (Or.inl ⟨by rfl, ?_⟩) hHeld ?_
      rotate_left
      · intro w hSw; (try dsimp only at hSw); go_simp; (try with_reducible rfl)
      try simp only [Act.put, List.setIfInBounds_toArray, List.set_cons_zero, List.set_cons_succ]
      refine wpAnyH_take (i := 40) (v := ?_) (by simp only [List.getElem?_toArray, List.getElem?_cons_succ, List.getElem?_cons_zero]; rfl) (by kernel_rfl) (by kernel_rfl) (by kernel_rfl) (by exact fun _ _ _ h => h) (Or.inl ⟨by rfl, ?_⟩) hHeld ?_
      rotate_left
      · intro w hSw; (try dsimp only at hSw); go_simp; (try with_reducible rfl)
      try simp only [Act.put, List.setIfInBounds_toArray, List.set_cons_zero, List.set_cons_succ]
      refine wpAnyH_take (i := 41) (v := ?_) (by simp only [List.getElem?_toArray, List.getElem?_cons_succ, List.getElem?_cons_zero]; rfl) (by kernel_rfl) (by kernel_rfl) (by kernel_rfl) (by exact fun _ _ _ h => h) (Or.inl ⟨by rfl, ?_⟩) hHeld ?_
      rotate_left
      · intro w hSw; (try dsimp only at hSw); go_simp; (try with_reducible rfl)
      try simp only [Act.put, List.setIfInBounds_toArray, List.set_cons_zero, List.set_cons_succ]
      refine wpAnyH_done (by kernel_rfl) ?_ _
      go_wp2_with fail
      go_ret
      exact ⟨by simp, hS.t.s.kp⟩
  · have h3' : (q0 == 3) = false ∨ q0 = 3 := by
      by_cases h : q0 = 3
      · exact .inr h
      · exact .inl (beq_eq_false_iff_ne.2 h)
    rcases h3' with h3' | rfl
    · go_upto_region 10 with fail
      have hbz : BumpAt (((w2.setCell ⟨H, 0, none⟩ (.int .i64 q0)).setCell ⟨H, 1, none⟩ (.int .i64 q1)).setCell ⟨H, 2, none⟩ (.int .i64 r1)) 65 H q0 q1 r1 y0 := (blk_set (blk_set (blk_set HS.out.b 0 (.int .i64 q0)) 1 (.int .i64 q1)) 2 (.int .i64 r1))
      have hkz : Keeps (just H) w2 (((w2.setCell ⟨H, 0, none⟩ (.int .i64 q0)).setCell ⟨H, 1, none⟩ (.int .i64 q1)).setCell ⟨H, 2, none⟩ (.int .i64 r1)) := (((Keeps.refl (just H) w2).setCell (p := ⟨H, 0, none⟩) (fun _ => rfl) (.int .i64 q0)).setCell (p := ⟨H, 1, none⟩) (fun _ => rfl) (.int .i64 q1)).setCell (p := ⟨H, 2, none⟩) (fun _ => rfl) (.int .i64 r1)
      have HSz := Lib.hid (HS.out.own HF.out hkz hbz)
      clear hbz hkz c0 c1 c2 c3 f0 f1 f2 f3 fz
      generalize (((w2.setCell ⟨H, 0, none⟩ (.int .i64 q0)).setCell ⟨H, 1, none⟩ (.int .i64 q1)).setCell ⟨H, 2, none⟩ (.int .i64 r1)) = wz at *
      obtain ⟨⟨m0, m1, m2, m3, m4⟩, d0, d1, d2, d3⟩ := HSz.out.cells
      have hl1 : ((M0 48).store 0 z0).L.length = 48 := lenC_store.trans (M0_len 48)
      have hl2 : (((M0 48).store 0 z0).store 1 z1).L.length = 48 := lenC_store.trans hl1
      have HL0 := Lib.hid (show 0 < (M0 48).L.length by rw [M0_len]; decide)
      have HL1 := Lib.hid (show 1 < ((M0 48).store 0 z0).L.length by rw [hl1]; decide)
      obtain ⟨M1, hM1⟩ : ∃ M1, (M0 48).store 0 z0 = M1 := ⟨_, rfl⟩
      obtain ⟨M2, hM2⟩ : ∃ M2, M1.store 1 z1 = M2 := ⟨_, rfl⟩
      rw [hM1, hM2] at hl2
      rw [hM1] at HL1
      obtain ⟨M', b', hst⟩ : ∃ M' b', stepB ⟨2, 2, 4, 0, 2⟩ M2 ⟨q0, q1, r1, y0⟩ = (M', b') := ⟨_, _, rfl⟩
      obtain ⟨K', S', X', Y'⟩ := b'
      have HM1 := Lib.hid hM1; have HM2 := Lib.hid hM2; have HST := Lib.hid hst
      have HL2 := Lib.hid (show sizeP ⟨2, 2, 4, 0, 2⟩ = (M2.L.length : Int) by rw [hl2, size8]; rfl)
      clear hl1 hl2 hM1 hM2 hst
      go_wp2_with (first
        | (go_at_call 50; refine (clock_lit 2 2 4 0 2 0 clk8.1 _).mono ?_; rintro e w3 ⟨rfl, hk3⟩; have HS3 := Lib.hid (HSz.out.no hk3))
        | (go_at_call 24; (with_reducible refine (store_0 a v (M0 48) z0 _ HS3.out.t.s.m HL0.out).mono ?_); rw [HM1.out]; rintro e w4 ⟨rfl, hm, hk⟩; have HS4 := Lib.hid (HS3.out.turnS HF.out hm hk); clear hm hk)
        | (go_at_call 25; (with_reducible refine (rstore_0 c u (M0 48) z0 _ HS4.out.t.r.m HL0.out).mono ?_); rw [HM1.out]; rintro e w5 ⟨rfl, hm, hk⟩; have HS5 := Lib.hid (HS4.out.turnR HF.out hm hk); clear hm hk; obtain ⟨⟨n0, n1, n2, n3, n4⟩, e0, e1, e2, e3⟩ := HS5.out.cells)
        | (go_at_call 36; refine (seq_lit 2 2 4 0 2 1 clk8.2 _).mono ?_; rintro e w6 ⟨rfl, hk6⟩; have HS6 := Lib.hid (HS5.out.no hk6))
        | (go_at_call 24; (with_reducible refine (store_1 a v M1 z1 _ HS6.out.t.s.m HL1.out).mono ?_); rw [HM2.out]; rintro e w7 ⟨rfl, hm, hk⟩; have HS7 := Lib.hid (HS6.out.turnS HF.out hm hk); clear hm hk)
        | (go_at_call 25; (with_reducible refine (rstore_1 c u M1 z1 _ HS7.out.t.r.m HL1.out).mono ?_); rw [HM2.out]; rintro e w8 ⟨rfl, hm, hk⟩; have HS8 := Lib.hid (HS7.out.turnR HF.out hm hk); clear hm hk; obtain ⟨⟨p0, p1, p2, p3, p4⟩, g0, g1, g2, g3⟩ := HS8.out.cells)
        | (go_at_call 38; refine (step_any 2 2 4 0 2 q0 q1 r1 y0 a v M2 _ HS8.out.t.s.m).mono ?_; rw [HST.out]; unfold bumpV; dsimp only; rintro e w9 ⟨rfl, hm, hk⟩; have hS9 := HS8.out.turnS HF.out hm hk; have hp := bumpAt_new w9 65 K' S' X' Y'; have hPF := hS9.fresh; have hSa := hS9.no ((Keeps.refl NoS w9).alloc (.cells #[.int .i64 K', .int .i64 S', .int .i64 X', .int .i64 Y'] 65)); clear hm hk))
      obtain ⟨Hp, hHp⟩ : ∃ Hp, w9.heap.size = Hp := ⟨_, rfl⟩
      rw [hHp] at hp hPF
      (try rw [hHp])
      have hSd := hSa.no ((Keeps.refl NoS _).drew)
      have hpd := hp.keep ((Keeps.refl NoS _).drew) (fun f => f)
      clear hHp m0 m1 m2 m3 m4 d0 d1 d2 d3 n0 n1 n2 n3 n4 e0 e1 e2 e3 p0 p1 p2 p3 p4 g0 g1 g2 g3
      generalize w9.alloc (.cells #[.int .i64 K', .int .i64 S', .int .i64 X', .int .i64 Y'] 65) = wa at *
      have hS := hSd
      have hp := hpd
      refine wp_region_held_drew (S := (fun w' => (w'.cell? ⟨B, 0, none⟩ = some (.int .i64 2) ∧ w'.cell? ⟨B, 1, none⟩ = some (.int .i64 2) ∧ w'.cell? ⟨B, 2, none⟩ = some (.int .i64 4) ∧ w'.cell? ⟨B, 3, none⟩ = some (.int .i64 0) ∧ w'.cell? ⟨B, 4, none⟩ = some (.int .i64 2)) ∧ (w'.cell? ⟨H, 0, none⟩ = some (.int .i64 q0) ∧ w'.cell? ⟨H, 1, none⟩ = some (.int .i64 q1) ∧ w'.cell? ⟨H, 2, none⟩ = some (.int .i64 r1) ∧ w'.cell? ⟨H, 3, none⟩ = some (.int .i64 y0)))) (by kernel_rfl) (hS.cells) (fun hHeld => ?_)
      generalize wa.drew = wd at *
      refine wpAnyH_take (i := 0) (v := ?_) (by simp only [List.getElem?_toArray, List.getElem?_cons_succ, List.getElem?_cons_zero]; rfl) (by kernel_rfl) (by kernel_rfl) (by kernel_rfl) (by exact fun _ _ _ h => h) (Or.inl ⟨by rfl, ?_⟩) hHeld ?_
      rotate_left
      · intro w hSw; (try dsimp only at hSw); go_simp; (try with_reducible rfl)
      try simp only [Act.put, List.setIfInBounds_toArray, List.set_cons_zero, List.set_cons_succ]
      refine wpAnyH_take (i := 2) (v := ?_) (by simp only [List.getElem?_toArray, List.getElem?_cons_succ, List.getElem?_cons_zero]; rfl) (by kernel_rfl) (by kernel_rfl) (by kernel_rfl) (by exact fun _ _ _ h => h) (Or.inl ⟨by rfl, ?_⟩) hHeld ?_
      rotate_left
      · intro w hSw; (try dsimp only at hSw); go_simp; (try with_reducible rfl)
      try simp only [Act.put, List.setIfInBounds_toArray, List.set_cons_zero, List.set_cons_succ]
      refine wpAnyH_take (i := 3) (v := ?_) (by simp only [List.getElem?_toArray, List.getElem?_cons_succ, List.getElem?_cons_zero]; rfl) (by kernel_rfl) (by kernel_rfl) (by kernel_rfl) (by exact fun _ _ _ h => h) (Or.inl ⟨by rfl, ?_⟩) hHeld ?_
      rotate_left
      · intro w hSw; (try dsimp only at hSw); go_simp; (try with_reducible rfl)
      try simp only [Act.put, List.setIfInBounds_toArray, List.set_cons_zero, List.set_cons_succ]
      refine wpAnyH_take (i := 4) (v := ?_) (by simp only [List.getElem?_toArray, List.getElem?_cons_succ, List.getElem?_cons_zero]; rfl) (by kernel_rfl) (by kernel_rfl) (by kernel_rfl) (by exact fun _ _ _ h => h) (Or.inl ⟨by rfl, ?_⟩) hHeld ?_
      rotate_left
      · intro w hSw; (try dsimp only at hSw); go_simp; (try with_reducible rfl)
      try simp only [Act.put, List.setIfInBounds_toArray, List.set_cons_zero, List.set_cons_succ]
      refine wpAnyH_take (i := 5) (v := ?_) (by simp only [List.getElem?_toArray, List.getElem?_cons_succ, List.getElem?_cons_zero]; rfl) (by kernel_rfl) (by kernel_rfl) (by kernel_rfl) (by exact fun _ _ _ h => h) (Or.inl ⟨by rfl, ?_⟩) hHeld ?_
      rotate_left
      · intro w hSw; (try dsimp only at hSw); go_simp; (try with_reducible rfl)
      try simp only [Act.put, List.setIfInBounds_toArray, List.set_cons_zero, List.set_cons_succ]
      refine wpAnyH_take (i := 6) (v := ?_) (by simp only [List.getElem?_toArray, List.getElem?_cons_succ, List.getElem?_cons_zero]; rfl) (by kernel_rfl) (by kernel_rfl) (by kernel_rfl) (by exact fun _ _ _ h => h) (Or.inl ⟨by rfl, ?_⟩) hHeld ?_
      rotate_left
      · intro w hSw; (try dsimp only at hSw); go_simp; (try with_reducible rfl)
      try simp only [Act.put, List.setIfInBounds_toArray, List.set_cons_zero, List.set_cons_succ]
      refine wpAnyH_take (i := 7) (v := ?_) (by simp only [List.getElem?_toArray, List.getElem?_cons_succ, List.getElem?_cons_zero]; rfl) (by kernel_rfl) (by kernel_rfl) (by kernel_rfl) (by exact fun _ _ _ h => h) (Or.inl ⟨by rfl, ?_⟩) hHeld ?_
      rotate_left
      · intro w hSw; (try dsimp only at hSw); go_simp; (try with_reducible rfl)
      try simp only [Act.put, List.setIfInBounds_toArray, List.set_cons_zero, List.set_cons_succ]
      refine wpAnyH_take (i := 8) (v := ?_) (by simp only [List.getElem?_toArray, List.getElem?_cons_succ, List.getElem?_cons_zero]; rfl) (by kernel_rfl) (by kernel_rfl) (by kernel_rfl) (by exact fun _ _ _ h => h) (Or.inl ⟨by rfl, ?_⟩) hHeld ?_
      rotate_left
      · intro w hSw; (try dsimp only at hSw); go_simp; (try with_reducible rfl)
      try simp only [Act.put, List.setIfInBounds_toArray, List.set_cons_zero, List.set_cons_succ]
      refine wpAnyH_take (i := 9) (v := ?_) (by simp only [List.getElem?_toArray, List.getElem?_cons_succ, List.getElem?_cons_zero]; rfl) (by kernel_rfl) (by kernel_rfl) (by kernel_rfl) (by exact fun _ _ _ h => h) (Or.inl ⟨by rfl, ?_⟩) hHeld ?_
      rotate_left
      · intro w hSw; (try dsimp only at hSw); go_simp; (try with_reducible rfl)
      try simp only [Act.put, List.setIfInBounds_toArray, List.set_cons_zero, List.set_cons_succ]
      refine wpAnyH_take (i := 10) (v := ?_) (by simp only [List.getElem?_toArray, List.getElem?_cons_succ, List.getElem?_cons_zero]; rfl) (by kernel_rfl) (by kernel_rfl) (by kernel_rfl) (by exact fun _ _ _ h => h) (Or.inl ⟨by rfl, ?_⟩) hHeld ?_
      rotate_left
      · intro w hSw; (try dsimp only at hSw); go_simp; (try with_reducible rfl)
      try simp only [Act.put, List.setIfInBounds_toArray, List.set_cons_zero, List.set_cons_succ]
      refine wpAnyH_take (i := 11) (v := ?_) (by simp only [List.getElem?_toArray, List.getElem?_cons_succ, List.getElem?_cons_zero]; rfl) (by kernel_rfl) (by kernel_rfl) (by kernel_rfl) (by exact fun _ _ _ h => h) (Or.inl ⟨by rfl, ?_⟩) hHeld ?_
      rotate_left
      · intro w hSw; (try dsimp only at hSw); go_simp; (try with_reducible rfl)
      try simp only [Act.put, List.setIfInBounds_toArray, List.set_cons_zero, List.set_cons_succ]
      refine wpAnyH_ready (rs := [1, 13]) (by kernel_rfl) (by simp) ?_
      refine AllReadyH.cons (by simp only [List.getElem?_toArray, List.getElem?_cons_succ, List.getElem?_cons_zero]; rfl) (fun kC hkC => ?_) (AllReadyH.cons (by simp only [List.getElem?_toArray, List.getElem?_cons_succ, List.getElem?_cons_zero]; rfl) (fun kC hkC => ?_) AllReadyH.nil)
      go_simp
      refine (ref_any ⟨2, 2, 4, 0, 2⟩ _).mono ?_; rintro r wR ⟨rfl, hkR⟩; have hS := hS.no hkR; have hp := hp.keep hkR (fun f => f); (try (have hb := hb.keep hkR (fun f => f))); unfold mapV; dsimp only; (try go_wp2_with fail)
      refine hkC.out _ _ ?_ (fun hHeld => ?_)
      · exact (hS.cells)
      clear hkC kC
      try simp only [Act.put, List.setIfInBounds_toArray, List.set_cons_zero, List.set_cons_succ]
      refine wpAnyH_ready (rs := [12, 13]) (by kernel_rfl) (by simp) ?_
      refine AllReadyH.cons (by simp only [List.getElem?_toArray, List.getElem?_cons_succ, List.getElem?_cons_zero]; rfl) (fun kC hkC => ?_) (AllReadyH.cons (by simp only [List.getElem?_toArray, List.getElem?_cons_succ, List.getElem?_cons_zero]; rfl) (fun kC hkC => ?_) AllReadyH.nil)
      go_simp
      refine (rstep_any 2 2 4 0 2 q0 q1 r1 y0 c u M2 _ hS.t.r.m HL2.out).mono ?_; rw [HST.out]; unfold bumpV; dsimp only; rintro r wT ⟨rfl, hmT, hkT⟩; (try (have hb := hb.keep hkT hN.2.2.1; obtain ⟨⟨b0, b1, b2, b3⟩, o0, o1, o2, o3, oz⟩ := hb.cells)); have hp := hp.keep hkT hPF.2.2.1; have hS := hS.turnR HF.out hmT hkT; (try go_wp2_with fail)
      refine hkC.out _ _ ?_ (fun hHeld => ?_)
      · exact (hS.cells)
      clear hkC kC
      try simp only [Act.put, List.setIfInBounds_toArray, List.set_cons_zero, List.set_cons_succ]
      refine wpAnyH_ready (rs := [13]) (by kernel_rfl) (by simp) ?_
      refine AllReadyH.cons (by simp only [List.getElem?_toArray, List.getElem?_cons_succ, List.getElem?_cons_zero]; rfl) (fun kC hkC => ?_) AllReadyH.nil
      go_simp
      have hS0 := hS; have hp0 := hp; obtain ⟨hb, hN, hS, hp⟩ := hS.bumpNew 85 hp; obtain ⟨⟨b0, b1, b2, b3⟩, o0, o1, o2, o3, oz⟩ := hb.cells
      refine hkC.out _ _ ?_ (fun hHeld => ?_)
      · exact (hS.cells)
      clear hkC kC
      try simp only [Act.put, List.setIfInBounds_toArray, List.set_cons_zero, List.set_cons_succ]
      refine wpAnyH_ready (rs := [14]) (by kernel_rfl) (by simp) ?_
      refine AllReadyH.cons (by simp only [List.getElem?_toArray, List.getElem?_cons_succ, List.getElem?_cons_zero]; rfl) (fun kC hkC => ?_) AllReadyH.nil
      go_simp
      refine hkC.out _ _ ?_ (fun hHeld => ?_)
      · exact ((by first | exact (hS0.no ((Keeps.refl NoS wT).alloc (.cells #[.int .i64 K', .int .i64 S', .int .i64 X', .int .i64 Y'] 85))).cells | exact (hS.set hN.1 hN.2.1 hN.2.2.1 hN.2.2.2.1 hN.2.2.2.2.1 (setQ_keeps wT _ ⟨K', S', X', Y'⟩)).cells))
      clear hkC kC
      try simp only [Act.put, List.setIfInBounds_toArray, List.set_cons_zero, List.set_cons_succ]
      refine wpAnyH_done (by kernel_rfl) ?_ _
      rotate_left
      go_simp
      have hS0 := hS; have hp0 := hp; obtain ⟨hb, hN, hS, hp⟩ := hS.bumpNew 85 hp; obtain ⟨⟨b0, b1, b2, b3⟩, o0, o1, o2, o3, oz⟩ := hb.cells
      refine hkC.out _ _ ?_ (fun hHeld => ?_)
      · exact (hS.cells)
      clear hkC kC
      try simp only [Act.put, List.setIfInBounds_toArray, List.set_cons_zero, List.set_cons_succ]
      refine wpAnyH_ready (rs := [12]) (by kernel_rfl) (by simp) ?_
      refine AllReadyH.cons (by simp only [List.getElem?_toArray, List.getElem?_cons_succ, List.getElem?_cons_zero]; rfl) (fun kC hkC => ?_) AllReadyH.nil
      go_simp
      refine (rstep_any 2 2 4 0 2 q0 q1 r1 y0 c u M2 _ hS.t.r.m HL2.out).mono ?_; rw [HST.out]; unfold bumpV; dsimp only; rintro r wT ⟨rfl, hmT, hkT⟩; (try (have hb := hb.keep hkT hN.2.2.1; obtain ⟨⟨b0, b1, b2, b3⟩, o0, o1, o2, o3, oz⟩ := hb.cells)); have hp := hp.keep hkT hPF.2.2.1; have hS := hS.turnR HF.out hmT hkT; (try go_wp2_with fail)
      refine hkC.out _ _ ?_ (fun hHeld => ?_)
      · exact (hS.cells)
      clear hkC kC
      try simp only [Act.put, List.setIfInBounds_toArray, List.set_cons_zero, List.set_cons_succ]
      refine wpAnyH_ready (rs := [14]) (by kernel_rfl) (by simp) ?_
      refine AllReadyH.cons (by simp only [List.getElem?_toArray, List.getElem?_cons_succ, List.getElem?_cons_zero]; rfl) (fun kC hkC => ?_) AllReadyH.nil
      go_simp
      refine hkC.out _ _ ?_ (fun hHeld => ?_)
      · exact ((by first | exact (hS0.no ((Keeps.refl NoS wT).alloc (.cells #[.int .i64 K', .int .i64 S', .int .i64 X', .int .i64 Y'] 85))).cells | exact (hS.set hN.1 hN.2.1 hN.2.2.1 hN.2.2.2.1 hN.2.2.2.2.1 (setQ_keeps wT _ ⟨K', S', X', Y'⟩)).cells))
      clear hkC kC
      try simp only [Act.put, List.setIfInBounds_toArray, List.set_cons_zero, List.set_cons_succ]
      refine wpAnyH_done (by kernel_rfl) ?_ _
      rotate_left
      go_simp
      have hS0 := hS; have hp0 := hp; obtain ⟨hb, hN, hS, hp⟩ := hS.bumpNew 85 hp; obtain ⟨⟨b0, b1, b2, b3⟩, o0, o1, o2, o3, oz⟩ := hb.cells
      refine hkC.out _ _ ?_ (fun hHeld => ?_)
      · exact (hS.cells)
      clear hkC kC
      try simp only [Act.put, List.setIfInBounds_toArray, List.set_cons_zero, List.set_cons_succ]
      refine wpAnyH_ready (rs := [1]) (by kernel_rfl) (by simp) ?_
      refine AllReadyH.cons (by simp only [List.getElem?_toArray, List.getElem?_cons_succ, List.getElem?_cons_zero]; rfl) (fun kC hkC => ?_) AllReadyH.nil
      go_simp
      refine (ref_any ⟨2, 2, 4, 0, 2⟩ _).mono ?_; rintro r wR ⟨rfl, hkR⟩; have hS := hS.no hkR; have hp := hp.keep hkR (fun f => f); (try (have hb := hb.keep hkR (fun f => f))); unfold mapV; dsimp only; (try go_wp2_with fail)
      refine hkC.out _ _ ?_ (fun hHeld => ?_)
      · exact (hS.cells)
      clear hkC kC
      try simp only [Act.put, List.setIfInBounds_toArray, List.set_cons_zero, List.set_cons_succ]
      refine wpAnyH_ready (rs := [12]) (by kernel_rfl) (by simp) ?_
      refine AllReadyH.cons (by simp only [List.getElem?_toArray, List.getElem?_cons_succ, List.getElem?_cons_zero]; rfl) (fun kC hkC => ?_) AllReadyH.nil
      go_simp
      refine (rstep_any 2 2 4 0 2 q0 q1 r1 y0 c u M2 _ hS.t.r.m HL2.out).mono ?_; rw [HST.out]; unfold bumpV; dsimp only; rintro r wT ⟨rfl, hmT, hkT⟩; (try (have hb := hb.keep hkT hN.2.2.1; obtain ⟨⟨b0, b1, b2, b3⟩, o0, o1, o2, o3, oz⟩ := hb.cells)); have hp := hp.keep hkT hPF.2.2.1; have hS := hS.turnR HF.out hmT hkT; (try go_wp2_with fail)
      refine hkC.out _ _ ?_ (fun hHeld => ?_)
      · exact (hS.cells)
      clear hkC kC
      try simp only [Act.put, List.setIfInBounds_toArray, List.set_cons_zero, List.set_cons_succ]
      refine wpAnyH_ready (rs := [14]) (by kernel_rfl) (by simp) ?_
      refine AllReadyH.cons (by simp only [List.getElem?_toArray, List.getElem?_cons_succ, List.getElem?_cons_zero]; rfl) (fun kC hkC => ?_) AllReadyH.nil
      go_simp
      refine hkC.out _ _ ?_ (fun hHeld => ?_)
      · exact ((by first | exact (hS0.no ((Keeps.refl NoS wT).alloc (.cells #[.int .i64 K', .int .i64 S', .int .i64 X', .int .i64 Y'] 85))).cells | exact (hS.set hN.1 hN.2.1 hN.2.2.1 hN.2.2.2.1 hN.2.2.2.2.1 (setQ_keeps wT _ ⟨K', S', X', Y'⟩)).cells))
      clear hkC kC
      try simp only [Act.put, List.setIfInBounds_toArray, List.set_cons_zero, List.set_cons_succ]
      refine wpAnyH_done (by kernel_rfl) ?_ _
      rotate_left
      all_goals
        first
          | (have hS2 := hS0.no ((Keeps.refl NoS wT).alloc (.cells #[.int .i64 K', .int .i64 S', .int .i64 X', .int .i64 Y'] 85)); have hp2 := hp0.keep ((Keeps.refl NoS wT).alloc (.cells #[.int .i64 K', .int .i64 S', .int .i64 X', .int .i64 Y'] 85)) (fun f => f); have hb2 := bumpAt_new wT 85 K' S' X' Y')
          | (have hS2 := hS.set hN.1 hN.2.1 hN.2.2.1 hN.2.2.2.1 hN.2.2.2.2.1 (setQ_keeps wT _ ⟨K', S', X', Y'⟩); have hp2 := hp.keep (setQ_keeps wT _ ⟨K', S', X', Y'⟩) hN.2.2.2.2.2; have hb2 := hb.setQ ⟨K', S', X', Y'⟩)
        clear hS0 hp0 hS hp hb hN b0 b1 b2 b3 o0 o1 o2 o3 oz hHeld hSd hpd hSa
        have hb := hb2; have hp := hp2; have hS := hS2
        first
          | (obtain ⟨g, hg⟩ : ∃ g, wT.heap.size = g := ⟨_, rfl⟩; rw [hg] at hb; rw [hg])
          | (obtain ⟨g, hg⟩ : ∃ g, wR.heap.size = g := ⟨_, rfl⟩; rw [hg] at hb; rw [hg])
          | (obtain ⟨g, hg⟩ : ∃ g, wd.heap.size = g := ⟨_, rfl⟩; rw [hg] at hb; rw [hg])
        (try rw [hg] at hS)
        (try rw [hg] at hp)
        (try unfold setQ at hS hp hb)
        (try dsimp only at hS)
        (try dsimp only at hp)
        (try dsimp only at hb)
        (try (go_upto_region 16 with fail))
        replace hS := hS.no ((Keeps.refl NoS _).drew)
        replace hp := hp.keep ((Keeps.refl NoS _).drew) (fun f => f)
        replace hb := hb.keep ((Keeps.refl NoS _).drew) (fun f => f)
        obtain ⟨sb, hsb⟩ : ∃ sb, startB q3 q4 = sb := ⟨_, rfl⟩
        obtain ⟨k2, s2, x2, y2⟩ := sb
        have HSB := Lib.hid hsb
        clear hsb hb2 hp2 hS2 hg
        refine wp_region_held_drew (S := (fun w' => (w'.cell? ⟨B, 0, none⟩ = some (.int .i64 2) ∧ w'.cell? ⟨B, 1, none⟩ = some (.int .i64 2) ∧ w'.cell? ⟨B, 2, none⟩ = some (.int .i64 4) ∧ w'.cell? ⟨B, 3, none⟩ = some (.int .i64 0) ∧ w'.cell? ⟨B, 4, none⟩ = some (.int .i64 2)) ∧ (w'.cell? ⟨H, 0, none⟩ = some (.int .i64 q0) ∧ w'.cell? ⟨H, 1, none⟩ = some (.int .i64 q1) ∧ w'.cell? ⟨H, 2, none⟩ = some (.int .i64 r1) ∧ w'.cell? ⟨H, 3, none⟩ = some (.int .i64 y0)) ∧ (w'.cell? ⟨Hp, 0, none⟩ = some (.int .i64 K') ∧ w'.cell? ⟨Hp, 1, none⟩ = some (.int .i64 S') ∧ w'.cell? ⟨Hp, 2, none⟩ = some (.int .i64 X') ∧ w'.cell? ⟨Hp, 3, none⟩ = some (.int .i64 Y')) ∧ (w'.cell? ⟨g, 0, none⟩ = some (.int .i64 K') ∧ w'.cell? ⟨g, 1, none⟩ = some (.int .i64 S') ∧ w'.cell? ⟨g, 2, none⟩ = some (.int .i64 X') ∧ w'.cell? ⟨g, 3, none⟩ = some (.int .i64 Y')))) (by kernel_rfl) (⟨hS.cells.1, hS.cells.2, hp.cells.1, hb.cells.1⟩) (fun hHeld => ?_)
        refine wpAnyH_ready (rs := [0]) (by kernel_rfl) (by simp) ?_
        refine AllReadyH.cons (by simp only [List.getElem?_toArray, List.getElem?_cons_succ, List.getElem?_cons_zero]; rfl) (fun kC hkC => ?_) AllReadyH.nil
        go_simp
        refine (told11_any _).mono ?_; rintro r wA ⟨rfl, hkA⟩; have hS := hS.no hkA; have hp := hp.keep hkA (fun f => f); have hb := hb.keep hkA (fun f => f)
        (try go_wp2_with fail)
        refine hkC.out _ _ (⟨hS.cells.1, hS.cells.2, hp.cells.1, hb.cells.1⟩) (fun hHeld => ?_)
        clear hkC kC
        try simp only [Act.put, List.setIfInBounds_toArray, List.set_cons_zero, List.set_cons_succ]
        refine wpAnyH_take (i := 1) (v := ?_) (by simp only [List.getElem?_toArray, List.getElem?_cons_succ, List.getElem?_cons_zero]; rfl) (by kernel_rfl) (by kernel_rfl) (by kernel_rfl) (by exact fun _ _ _ h => h) (Or.inl ⟨by rfl, ?_⟩) hHeld ?_
        rotate_left
        · intro w hSw; (try dsimp only at hSw); go_simp; (try with_reducible rfl)
        try simp only [Act.put, List.setIfInBounds_toArray, List.set_cons_zero, List.set_cons_succ]
        refine wpAnyH_take (i := 2) (v := ?_) (by simp only [List.getElem?_toArray, List.getElem?_cons_succ, List.getElem?_cons_zero]; rfl) (by kernel_rfl) (by kernel_rfl) (by kernel_rfl) (by exact fun _ _ _ h => h) (Or.inl ⟨by rfl, ?_⟩) hHeld ?_
        rotate_left
        · intro w hSw; (try dsimp only at hSw); go_simp; (try with_reducible rfl)
        try simp only [Act.put, List.setIfInBounds_toArray, List.set_cons_zero, List.set_cons_succ]
        refine wpAnyH_take (i := 3) (v := ?_) (by simp only [List.getElem?_toArray, List.getElem?_cons_succ, List.getElem?_cons_zero]; rfl) (by kernel_rfl) (by kernel_rfl) (by kernel_rfl) (by exact fun _ _ _ h => h) (Or.inl ⟨by rfl, ?_⟩) hHeld ?_
        rotate_left
        · intro w hSw; (try dsimp only at hSw); go_simp; (try with_reducible rfl)
        try simp only [Act.put, List.setIfInBounds_toArray, List.set_cons_zero, List.set_cons_succ]
        refine wpAnyH_ready (rs := [4]) (by kernel_rfl) (by simp) ?_
        refine AllReadyH.cons (by simp only [List.getElem?_toArray, List.getElem?_cons_succ, List.getElem?_cons_zero]; rfl) (fun kC hkC => ?_) AllReadyH.nil
        go_simp
        refine (likeB_any K' S' X' Y' _).mono ?_; rintro r wB ⟨rfl, hkB⟩; have hS := hS.no hkB; have hp := hp.keep hkB (fun f => f); have hb := hb.keep hkB (fun f => f)
        (try go_wp2_with fail)
        refine hkC.out _ _ (⟨hS.cells.1, hS.cells.2, hp.cells.1, hb.cells.1⟩) (fun hHeld => ?_)
        clear hkC kC
        try simp only [Act.put, List.setIfInBounds_toArray, List.set_cons_zero, List.set_cons_succ]
        refine wpAnyH_take (i := 5) (v := ?_) (by simp only [List.getElem?_toArray, List.getElem?_cons_succ, List.getElem?_cons_zero]; rfl) (by kernel_rfl) (by kernel_rfl) (by kernel_rfl) (by exact fun _ _ _ h => h) (Or.inl ⟨by rfl, ?_⟩) hHeld ?_
        rotate_left
        · intro w hSw; (try dsimp only at hSw); go_simp; (try with_reducible rfl)
        try simp only [Act.put, List.setIfInBounds_toArray, List.set_cons_zero, List.set_cons_succ]
        refine wpAnyH_take (i := 6) (v := ?_) (by simp only [List.getElem?_toArray, List.getElem?_cons_succ, List.getElem?_cons_zero]; rfl) (by kernel_rfl) (by kernel_rfl) (by kernel_rfl) (by exact fun _ _ _ h => h) (Or.inl ⟨by rfl, ?_⟩) hHeld ?_
        rotate_left
        · intro w hSw; (try dsimp only at hSw); go_simp; (try with_reducible rfl)
        try simp only [Act.put, List.setIfInBounds_toArray, List.set_cons_zero, List.set_cons_succ]
        refine wpAnyH_take (i := 7) (v := ?_) (by simp only [List.getElem?_toArray, List.getElem?_cons_succ, List.getElem?_cons_zero]; rfl) (by kernel_rfl) (by kernel_rfl) (by kernel_rfl) (by exact fun _ _ _ h => h) (Or.inl ⟨by rfl, ?_⟩) hHeld ?_
        rotate_left
        · intro w hSw; (try dsimp only at hSw); go_simp; (try with_reducible rfl)
        try simp only [Act.put, List.setIfInBounds_toArray, List.set_cons_zero, List.set_cons_succ]
        refine wpAnyH_take (i := 8) (v := ?_) (by simp only [List.getElem?_toArray, List.getElem?_cons_succ, List.getElem?_cons_zero]; rfl) (by kernel_rfl) (by kernel_rfl) (by kernel_rfl) (by exact fun _ _ _ h => h) (Or.inl ⟨by rfl, ?_⟩) hHeld ?_
        rotate_left
        · intro w hSw; (try dsimp only at hSw); go_simp; (try with_reducible rfl)
        try simp only [Act.put, List.setIfInBounds_toArray, List.set_cons_zero, List.set_cons_succ]
        refine wpAnyH_ready (rs := [9]) (by kernel_rfl) (by simp) ?_
        refine AllReadyH.cons (by simp only [List.getElem?_toArray, List.getElem?_cons_succ, List.getElem?_cons_zero]; rfl) (fun kC hkC => ?_) AllReadyH.nil
        go_simp
        refine (same_any a c v u M' M' _ hS.t.s.m hS.t.r.m rfl).mono ?_; rintro r wC ⟨rfl, hkC'⟩; have hS := hS.no hkC'; have hp := hp.keep hkC' (fun f => f); have hb := hb.keep hkC' (fun f => f)
        (try go_wp2_with fail)
        refine hkC.out _ _ (⟨hS.cells.1, hS.cells.2, hp.cells.1, hb.cells.1⟩) (fun hHeld => ?_)
        clear hkC kC
        try simp only [Act.put, List.setIfInBounds_toArray, List.set_cons_zero, List.set_cons_succ]
        refine wpAnyH_take (i := 10) (v := ?_) (by simp only [List.getElem?_toArray, List.getElem?_cons_succ, List.getElem?_cons_zero]; rfl) (by kernel_rfl) (by kernel_rfl) (by kernel_rfl) (by exact fun _ _ _ h => h) (Or.inl ⟨by rfl, ?_⟩) hHeld ?_
        rotate_left
        · intro w hSw; (try dsimp only at hSw); go_simp; (try with_reducible rfl)
        try simp only [Act.put, List.setIfInBounds_toArray, List.set_cons_zero, List.set_cons_succ]
        refine wpAnyH_take (i := 11) (v := ?_) (by simp only [List.getElem?_toArray, List.getElem?_cons_succ, List.getElem?_cons_zero]; rfl) (by kernel_rfl) (by kernel_rfl) (by kernel_rfl) (by exact fun _ _ _ h => h) (Or.inl ⟨by rfl, ?_⟩) hHeld ?_
        rotate_left
        · intro w hSw; (try dsimp only at hSw); go_simp; (try with_reducible rfl)
        try simp only [Act.put, List.setIfInBounds_toArray, List.set_cons_zero, List.set_cons_succ]
        refine wpAnyH_take (i := 12) (v := ?_) (by simp only [List.getElem?_toArray, List.getElem?_cons_succ, List.getElem?_cons_zero]; rfl) (by kernel_rfl) (by kernel_rfl) (by kernel_rfl) (by exact fun _ _ _ h => h) (Or.inl ⟨by rfl, ?_⟩) hHeld ?_
        rotate_left
        · intro w hSw; (try dsimp only at hSw); go_simp; (try with_reducible rfl)
        try simp only [Act.put, List.setIfInBounds_toArray, List.set_cons_zero, List.set_cons_succ]
        refine wpAnyH_take (i := 13) (v := ?_) (by simp only [List.getElem?_toArray, List.getElem?_cons_succ, List.getElem?_cons_zero]; rfl) (by kernel_rfl) (by kernel_rfl) (by kernel_rfl) (by exact fun _ _ _ h => h) (Or.inl ⟨by rfl, ?_⟩) hHeld ?_
        rotate_left
        · intro w hSw; (try dsimp only at hSw); go_simp; (try with_reducible rfl)
        try simp only [Act.put, List.setIfInBounds_toArray, List.set_cons_zero, List.set_cons_succ]
        refine wpAnyH_ready (rs := [14]) (by kernel_rfl) (by simp) ?_
        refine AllReadyH.cons (by simp only [List.getElem?_toArray, List.getElem?_cons_succ, List.getElem?_cons_zero]; rfl) (fun kC hkC => ?_) AllReadyH.nil
        go_simp
        refine (like_keep w _ a c v u M' hS.t).mono ?_; rintro r wD ⟨rfl, _, hkD⟩; have hS := hS.no hkD; have hp := hp.keep hkD (fun f => f); have hb := hb.keep hkD (fun f => f)
        (try go_wp2_with fail)
        refine hkC.out _ _ (⟨hS.cells.1, hS.cells.2, hp.cells.1, hb.cells.1⟩) (fun hHeld => ?_)
        clear hkC kC
        try simp only [Act.put, List.setIfInBounds_toArray, List.set_cons_zero, List.set_cons_succ]
        refine wpAnyH_take (i := 15) (v := ?_) (by simp only [List.getElem?_toArray, List.getElem?_cons_succ, List.getElem?_cons_zero]; rfl) (by kernel_rfl) (by kernel_rfl) (by kernel_rfl) (by exact fun _ _ _ h => h) (Or.inl ⟨by rfl, ?_⟩) hHeld ?_
        rotate_left
        · intro w hSw; (try dsimp only at hSw); go_simp; (try with_reducible rfl)
        try simp only [Act.put, List.setIfInBounds_toArray, List.set_cons_zero, List.set_cons_succ]
        refine wpAnyH_take (i := 16) (v := ?_) (by simp only [List.getElem?_toArray, List.getElem?_cons_succ, List.getElem?_cons_zero]; rfl) (by kernel_rfl) (by kernel_rfl) (by kernel_rfl) (by exact fun _ _ _ h => h) (Or.inl ⟨by rfl, ?_⟩) hHeld ?_
        rotate_left
        · intro w hSw; (try dsimp only at hSw); go_simp; (try with_reducible rfl)
        try simp only [Act.put, List.setIfInBounds_toArray, List.set_cons_zero, List.set_cons_succ]
        refine wpAnyH_take (i := 17) (v := ?_) (by simp only [List.getElem?_toArray, List.getElem?_cons_succ, List.getElem?_cons_zero]; rfl) (by kernel_rfl) (by kernel_rfl) (by kernel_rfl) (by exact fun _ _ _ h => h) (Or.inl ⟨by rfl, ?_⟩) hHeld ?_
        rotate_left
        · intro w hSw; (try dsimp only at hSw); go_simp; (try with_reducible rfl)
        try simp only [Act.put, List.setIfInBounds_toArray, List.set_cons_zero, List.set_cons_succ]
        refine wpAnyH_take (i := 18) (v := ?_) (by simp only [List.getElem?_toArray, List.getElem?_cons_succ, List.getElem?_cons_zero]; rfl) (by kernel_rfl) (by kernel_rfl) (by kernel_rfl) (by exact fun _ _ _ h => h) (Or.inl ⟨by rfl, ?_⟩) hHeld ?_
        rotate_left
        · intro w hSw; (try dsimp only at hSw); go_simp; (try with_reducible rfl)
        try simp only [Act.put, List.setIfInBounds_toArray, List.set_cons_zero, List.set_cons_succ]
        refine wpAnyH_take (i := 20) (v := ?_) (by simp only [List.getElem?_toArray, List.getElem?_cons_succ, List.getElem?_cons_zero]; rfl) (by kernel_rfl) (by kernel_rfl) (by kernel_rfl) (by exact fun _ _ _ h => h) (Or.inl ⟨by rfl, ?_⟩) hHeld ?_
        rotate_left
        · intro w hSw; (try dsimp only at hSw); go_simp; (try with_reducible rfl)
        try simp only [Act.put, List.setIfInBounds_toArray, List.set_cons_zero, List.set_cons_succ]
        refine wpAnyH_take (i := 21) (v := ?_) (by simp only [List.getElem?_toArray, List.getElem?_cons_succ, List.getElem?_cons_zero]; rfl) (by kernel_rfl) (by kernel_rfl) (by kernel_rfl) (by exact fun _ _ _ h => h) (Or.inl ⟨by rfl, ?_⟩) hHeld ?_
        rotate_left
        · intro w hSw; (try dsimp only at hSw); go_simp; (try with_reducible rfl)
        try simp only [Act.put, List.setIfInBounds_toArray, List.set_cons_zero, List.set_cons_succ]
        refine wpAnyH_ready (rs := [19]) (by kernel_rfl) (by simp) ?_
        refine AllReadyH.cons (by simp only [List.getElem?_toArray, List.getElem?_cons_succ, List.getElem?_cons_zero]; rfl) (fun kC hkC => ?_) AllReadyH.nil
        go_simp
        refine (start_any q3 q4 _).mono ?_; rw [HSB.out]; unfold bumpV; dsimp only; rintro r wE ⟨rfl, hkE⟩; have hS := hS.no hkE; have hp := hp.keep hkE (fun f => f); have hb := hb.keep hkE (fun f => f)
        (try go_wp2_with fail)
        refine hkC.out _ _ (⟨hS.cells.1, hS.cells.2, hp.cells.1, hb.cells.1⟩) (fun hHeld => ?_)
        clear hkC kC
        try simp only [Act.put, List.setIfInBounds_toArray, List.set_cons_zero, List.set_cons_succ]
        refine wpAnyH_ready (rs := [22]) (by kernel_rfl) (by simp) ?_
        refine AllReadyH.cons (by simp only [List.getElem?_toArray, List.getElem?_cons_succ, List.getElem?_cons_zero]; rfl) (fun kC hkC => ?_) AllReadyH.nil
        go_simp
        refine (rstart_any q3 q4 _).mono ?_; rw [HSB.out]; unfold bumpV; dsimp only; rintro r wF ⟨rfl, hkF⟩; have hS := hS.no hkF; have hp := hp.keep hkF (fun f => f); have hb := hb.keep hkF (fun f => f)
        (try go_wp2_with fail)
        refine hkC.out _ _ (⟨hS.cells.1, hS.cells.2, hp.cells.1, hb.cells.1⟩) (fun hHeld => ?_)
        clear hkC kC
        try simp only [Act.put, List.setIfInBounds_toArray, List.set_cons_zero, List.set_cons_succ]
        refine wpAnyH_ready (rs := [23]) (by kernel_rfl) (by simp) ?_
        refine AllReadyH.cons (by simp only [List.getElem?_toArray, List.getElem?_cons_succ, List.getElem?_cons_zero]; rfl) (fun kC hkC => ?_) AllReadyH.nil
        go_simp
        refine (likeB_any k2 s2 x2 y2 _).mono ?_; rintro r wG ⟨rfl, hkG⟩; have hS := hS.no hkG; have hp := hp.keep hkG (fun f => f); have hb := hb.keep hkG (fun f => f)
        (try go_wp2_with fail)
        refine hkC.out _ _ (⟨hS.cells.1, hS.cells.2, hp.cells.1, hb.cells.1⟩) (fun hHeld => ?_)
        clear hkC kC
        try simp only [Act.put, List.setIfInBounds_toArray, List.set_cons_zero, List.set_cons_succ]
        refine wpAnyH_take (i := 24) (v := ?_) (by simp only [List.getElem?_toArray, List.getElem?_cons_succ, List.getElem?_cons_zero]; rfl) (by kernel_rfl) (by kernel_rfl) (by kernel_rfl) (by exact fun _ _ _ h => h) (Or.inl ⟨by rfl, ?_⟩) hHeld ?_
        rotate_left
        · intro w hSw; (try dsimp only at hSw); go_simp; (try with_reducible rfl)
        try simp only [Act.put, List.setIfInBounds_toArray, List.set_cons_zero, List.set_cons_succ]
        refine wpAnyH_take (i := 25) (v := ?_) (by simp only [List.getElem?_toArray, List.getElem?_cons_succ, List.getElem?_cons_zero]; rfl) (by kernel_rfl) (by kernel_rfl) (by kernel_rfl) (by exact fun _ _ _ h => h) (Or.inl ⟨by rfl, ?_⟩) hHeld ?_
        rotate_left
        · intro w hSw; (try dsimp only at hSw); go_simp; (try with_reducible rfl)
        try simp only [Act.put, List.setIfInBounds_toArray, List.set_cons_zero, List.set_cons_succ]
        refine wpAnyH_take (i := 26) (v := ?_) (by simp only [List.getElem?_toArray, List.getElem?_cons_succ, List.getElem?_cons_zero]; rfl) (by kernel_rfl) (by kernel_rfl) (by kernel_rfl) (by exact fun _ _ _ h => h) (Or.inl ⟨by rfl, ?_⟩) hHeld ?_
        rotate_left
        · intro w hSw; (try dsimp only at hSw); go_simp; (try with_reducible rfl)
        try simp only [Act.put, List.setIfInBounds_toArray, List.set_cons_zero, List.set_cons_succ]
        refine wpAnyH_take (i := 27) (v := ?_) (by simp only [List.getElem?_toArray, List.getElem?_cons_succ, List.getElem?_cons_zero]; rfl) (by kernel_rfl) (by kernel_rfl) (by kernel_rfl) (by exact fun _ _ _ h => h) (Or.inl ⟨by rfl, ?_⟩) hHeld ?_
        rotate_left
        · intro w hSw; (try dsimp only at hSw); go_simp; (try with_reducible rfl)
        try simp only [Act.put, List.setIfInBounds_toArray, List.set_cons_zero, List.set_cons_succ]
        refine wpAnyH_take (i := 29) (v := ?_) (by simp only [List.getElem?_toArray, List.getElem?_cons_succ, List.getElem?_cons_zero]; rfl) (by kernel_rfl) (by kernel_rfl) (by kernel_rfl) (by exact fun _ _ _ h => h) (Or.inl ⟨by rfl, ?_⟩) hHeld ?_
        rotate_left
        · intro w hSw; (try dsimp only at hSw); go_simp; (try with_reducible rfl)
        try simp only [Act.put, List.setIfInBounds_toArray, List.set_cons_zero, List.set_cons_succ]
        refine wpAnyH_ready (rs := [28]) (by kernel_rfl) (by simp) ?_
        refine AllReadyH.cons (by simp only [List.getElem?_toArray, List.getElem?_cons_succ, List.getElem?_cons_zero]; rfl) (fun kC hkC => ?_) AllReadyH.nil
        go_simp
        refine (stepnil_any 2 2 4 0 2 q0 q1 r1 y0 (by decide) _).mono ?_; rintro r wI ⟨rfl, hkI⟩; have hS := hS.no hkI; have hp := hp.keep hkI (fun f => f); have hb := hb.keep hkI (fun f => f)
        (try go_wp2_with fail)
        refine hkC.out _ _ (⟨hS.cells.1, hS.cells.2, hp.cells.1, hb.cells.1⟩) (fun hHeld => ?_)
        clear hkC kC
        try simp only [Act.put, List.setIfInBounds_toArray, List.set_cons_zero, List.set_cons_succ]
        refine wpAnyH_take (i := 30) (v := ?_) (by simp only [List.getElem?_toArray, List.getElem?_cons_succ, List.getElem?_cons_zero]; rfl) (by kernel_rfl) (by kernel_rfl) (by kernel_rfl) (by exact fun _ _ _ h => h) (Or.inl ⟨by rfl, ?_⟩) hHeld ?_
        rotate_left
        · intro w hSw; (try dsimp only at hSw); go_simp; (try with_reducible rfl)
        try simp only [Act.put, List.setIfInBounds_toArray, List.set_cons_zero, List.set_cons_succ]
        refine wpAnyH_take (i := 31) (v := ?_) (by simp only [List.getElem?_toArray, List.getElem?_cons_succ, List.getElem?_cons_zero]; rfl) (by kernel_rfl) (by kernel_rfl) (by kernel_rfl) (by exact fun _ _ _ h => h) (Or.inl ⟨by rfl, ?_⟩) hHeld ?_
        rotate_left
        · intro w hSw; (try dsimp only at hSw); go_simp; (try with_reducible rfl)
        try simp only [Act.put, List.setIfInBounds_toArray, List.set_cons_zero, List.set_cons_succ]
        refine wpAnyH_take (i := 32) (v := ?_) (by simp only [List.getElem?_toArray, List.getElem?_cons_succ, List.getElem?_cons_zero]; rfl) (by kernel_rfl) (by kernel_rfl) (by kernel_rfl) (by exact fun _ _ _ h => h) (Or.inl ⟨by rfl, ?_⟩) hHeld ?_
        rotate_left
        · intro w hSw; (try dsimp only at hSw); go_simp; (try with_reducible rfl)
        try simp only [Act.put, List.setIfInBounds_toArray, List.set_cons_zero, List.set_cons_succ]
        refine wpAnyH_take (i := 33) (v := ?_) (by simp only [List.getElem?_toArray, List.getElem?_cons_succ, List.getElem?_cons_zero]; rfl) (by kernel_rfl) (by kernel_rfl) (by kernel_rfl) (by exact fun _ _ _ h => h) (Or.inl ⟨by rfl, ?_⟩) hHeld ?_
        rotate_left
        · intro w hSw; (try dsimp only at hSw); go_simp; (try with_reducible rfl)
        try simp only [Act.put, List.setIfInBounds_toArray, List.set_cons_zero, List.set_cons_succ]
        refine wpAnyH_take (i := 34) (v := ?_) (by simp only [List.getElem?_toArray, List.getElem?_cons_succ, List.getElem?_cons_zero]; rfl) (by kernel_rfl) (by kernel_rfl) (by kernel_rfl) (by exact fun _ _ _ h => h) (Or.inl ⟨by rfl, ?_⟩) hHeld ?_
        rotate_left
        · intro w hSw; (try dsimp only at hSw); go_simp; (try with_reducible rfl)
        try simp only [Act.put, List.setIfInBounds_toArray, List.set_cons_zero, List.set_cons_succ]
        refine wpAnyH_take (i := 36) (v := ?_) (by simp only [List.getElem?_toArray, List.getElem?_cons_succ, List.getElem?_cons_zero]; rfl) (by kernel_rfl) (by kernel_rfl) (by kernel_rfl) (by exact fun _ _ _ h => h) (Or.inl ⟨by rfl, ?_⟩) hHeld ?_
        rotate_left
        · intro w hSw; (try dsimp only at hSw); go_simp; (try with_reducible rfl)
        try simp only [Act.put, List.setIfInBounds_toArray, List.set_cons_zero, List.set_cons_succ]
        refine wpAnyH_take (i := 37) (v := ?_) (by simp only [List.getElem?_toArray, List.getElem?_cons_succ, List.getElem?_cons_zero]; rfl) (by kernel_rfl) (by kernel_rfl) (by kernel_rfl) (by exact fun _ _ _ h => h) (Or.inl ⟨by rfl, ?_⟩) hHeld ?_
        rotate_left
        · intro w hSw; (try dsimp only at hSw); go_simp; (try with_reducible rfl)
        try simp only [Act.put, List.setIfInBounds_toArray, List.set_cons_zero, List.set_cons_succ]
        refine wpAnyH_take (i := 38) (v := ?_) (by simp only [List.getElem?_toArray, List.getElem?_cons_succ, List.getElem?_cons_zero]; rfl) (by kernel_rfl) (by kernel_rfl) (by kernel_rfl) (by exact fun _ _ _ h => h) (Or.inl ⟨by rfl, ?_⟩) hHeld ?_
        rotate_left
        · intro w hSw; (try dsimp only at hSw); go_simp; (try with_reducible rfl)
        try simp only [Act.put, List.setIfInBounds_toArray, List.set_cons_zero, List.set_cons_succ]
        refine wpAnyH_ready (rs := [35]) (by kernel_rfl) (by simp) ?_
        refine AllReadyH.cons (by simp only [List.getElem?_toArray, List.getElem?_cons_succ, List.getElem?_cons_zero]; rfl) (fun kC hkC => ?_) AllReadyH.nil
        go_simp
        refine (over_any z0 z1 _).mono ?_; rintro r wJ ⟨rfl, rfl⟩
        (try go_wp2_with fail)
        refine hkC.out _ _ (⟨hS.cells.1, hS.cells.2, hp.cells.1, hb.cells.1⟩) (fun hHeld => ?_)
        clear hkC kC
        try simp only [Act.put, List.setIfInBounds_toArray, List.set_cons_zero, List.set_cons_succ]
        refine wpAnyH_take (i := 39) (v := ?_) (by simp only [List.getElem?_toArray, List.getElem?_cons_succ, List.getElem?_cons_zero]; rfl) (by kernel_rfl) (by kernel_rfl) (by kernel_rfl) (by exact fun _ _ _ h => h) (Or.inl ⟨by rfl, ?_⟩) hHeld ?_
        rotate_left
        · intro w hSw; (try dsimp only at hSw); go_simp; (try with_reducible rfl)
        try simp only [Act.put, List.setIfInBounds_toArray, List.set_cons_zero, List.set_cons_succ]
        refine wpAnyH_take (i := 40) (v := ?_) (by simp only [List.getElem?_toArray, List.getElem?_cons_succ, List.getElem?_cons_zero]; rfl) (by kernel_rfl) (by kernel_rfl) (by kernel_rfl) (by exact fun _ _ _ h => h) (Or.inl ⟨by rfl, ?_⟩) hHeld ?_
        rotate_left
        · intro w hSw; (try dsimp only at hSw); go_simp; (try with_reducible rfl)
        try simp only [Act.put, List.setIfInBounds_toArray, List.set_cons_zero, List.set_cons_succ]
        refine wpAnyH_take (i := 41) (v := ?_) (by simp only [List.getElem?_toArray, List.getElem?_cons_succ, List.getElem?_cons_zero]; rfl) (by kernel_rfl) (by kernel_rfl) (by kernel_rfl) (by exact fun _ _ _ h => h) (Or.inl ⟨by rfl, ?_⟩) hHeld ?_
        rotate_left
        · intro w hSw; (try dsimp only at hSw); go_simp; (try with_reducible rfl)
        try simp only [Act.put, List.setIfInBounds_toArray, List.set_cons_zero, List.set_cons_succ]
        refine wpAnyH_done (by kernel_rfl) ?_ _
        go_wp2_with fail
        go_ret
        exact ⟨by simp, hS.t.s.kp⟩
    · go_upto_region 10 with fail
      have hbz : BumpAt ((((w2.setCell ⟨H, 0, none⟩ (.int .i64 3)).setCell ⟨H, 1, none⟩ (.int .i64 q1)).setCell ⟨H, 2, none⟩ (.int .i64 r1)).setCell ⟨H, 2, none⟩ (.int .i64 r2)) 65 H 3 q1 r2 y0 := (blk_set (blk_set (blk_set (blk_set HS.out.b 0 (.int .i64 3)) 1 (.int .i64 q1)) 2 (.int .i64 r1)) 2 (.int .i64 r2))
      have hkz : Keeps (just H) w2 ((((w2.setCell ⟨H, 0, none⟩ (.int .i64 3)).setCell ⟨H, 1, none⟩ (.int .i64 q1)).setCell ⟨H, 2, none⟩ (.int .i64 r1)).setCell ⟨H, 2, none⟩ (.int .i64 r2)) := ((((Keeps.refl (just H) w2).setCell (p := ⟨H, 0, none⟩) (fun _ => rfl) (.int .i64 3)).setCell (p := ⟨H, 1, none⟩) (fun _ => rfl) (.int .i64 q1)).setCell (p := ⟨H, 2, none⟩) (fun _ => rfl) (.int .i64 r1)).setCell (p := ⟨H, 2, none⟩) (fun _ => rfl) (.int .i64 r2)
      have HSz := Lib.hid (HS.out.own HF.out hkz hbz)
      clear hbz hkz c0 c1 c2 c3 f0 f1 f2 f3 fz
      generalize ((((w2.setCell ⟨H, 0, none⟩ (.int .i64 3)).setCell ⟨H, 1, none⟩ (.int .i64 q1)).setCell ⟨H, 2, none⟩ (.int .i64 r1)).setCell ⟨H, 2, none⟩ (.int .i64 r2)) = wz at *
      obtain ⟨⟨m0, m1, m2, m3, m4⟩, d0, d1, d2, d3⟩ := HSz.out.cells
      have hl1 : ((M0 48).store 0 z0).L.length = 48 := lenC_store.trans (M0_len 48)
      have hl2 : (((M0 48).store 0 z0).store 1 z1).L.length = 48 := lenC_store.trans hl1
      have HL0 := Lib.hid (show 0 < (M0 48).L.length by rw [M0_len]; decide)
      have HL1 := Lib.hid (show 1 < ((M0 48).store 0 z0).L.length by rw [hl1]; decide)
      obtain ⟨M1, hM1⟩ : ∃ M1, (M0 48).store 0 z0 = M1 := ⟨_, rfl⟩
      obtain ⟨M2, hM2⟩ : ∃ M2, M1.store 1 z1 = M2 := ⟨_, rfl⟩
      rw [hM1, hM2] at hl2
      rw [hM1] at HL1
      obtain ⟨M', b', hst⟩ : ∃ M' b', stepB ⟨2, 2, 4, 0, 2⟩ M2 ⟨3, q1, r2, y0⟩ = (M', b') := ⟨_, _, rfl⟩
      obtain ⟨K', S', X', Y'⟩ := b'
      have HM1 := Lib.hid hM1; have HM2 := Lib.hid hM2; have HST := Lib.hid hst
      have HL2 := Lib.hid (show sizeP ⟨2, 2, 4, 0, 2⟩ = (M2.L.length : Int) by rw [hl2, size8]; rfl)
      clear hl1 hl2 hM1 hM2 hst
      go_wp2_with (first
        | (go_at_call 50; refine (clock_lit 2 2 4 0 2 0 clk8.1 _).mono ?_; rintro e w3 ⟨rfl, hk3⟩; have HS3 := Lib.hid (HSz.out.no hk3))
        | (go_at_call 24; (with_reducible refine (store_0 a v (M0 48) z0 _ HS3.out.t.s.m HL0.out).mono ?_); rw [HM1.out]; rintro e w4 ⟨rfl, hm, hk⟩; have HS4 := Lib.hid (HS3.out.turnS HF.out hm hk); clear hm hk)
        | (go_at_call 25; (with_reducible refine (rstore_0 c u (M0 48) z0 _ HS4.out.t.r.m HL0.out).mono ?_); rw [HM1.out]; rintro e w5 ⟨rfl, hm, hk⟩; have HS5 := Lib.hid (HS4.out.turnR HF.out hm hk); clear hm hk; obtain ⟨⟨n0, n1, n2, n3, n4⟩, e0, e1, e2, e3⟩ := HS5.out.cells)
        | (go_at_call 36; refine (seq_lit 2 2 4 0 2 1 clk8.2 _).mono ?_; rintro e w6 ⟨rfl, hk6⟩; have HS6 := Lib.hid (HS5.out.no hk6))
        | (go_at_call 24; (with_reducible refine (store_1 a v M1 z1 _ HS6.out.t.s.m HL1.out).mono ?_); rw [HM2.out]; rintro e w7 ⟨rfl, hm, hk⟩; have HS7 := Lib.hid (HS6.out.turnS HF.out hm hk); clear hm hk)
        | (go_at_call 25; (with_reducible refine (rstore_1 c u M1 z1 _ HS7.out.t.r.m HL1.out).mono ?_); rw [HM2.out]; rintro e w8 ⟨rfl, hm, hk⟩; have HS8 := Lib.hid (HS7.out.turnR HF.out hm hk); clear hm hk; obtain ⟨⟨p0, p1, p2, p3, p4⟩, g0, g1, g2, g3⟩ := HS8.out.cells)
        | (go_at_call 38; refine (step_any 2 2 4 0 2 3 q1 r2 y0 a v M2 _ HS8.out.t.s.m).mono ?_; rw [HST.out]; unfold bumpV; dsimp only; rintro e w9 ⟨rfl, hm, hk⟩; have hS9 := HS8.out.turnS HF.out hm hk; have hp := bumpAt_new w9 65 K' S' X' Y'; have hPF := hS9.fresh; have hSa := hS9.no ((Keeps.refl NoS w9).alloc (.cells #[.int .i64 K', .int .i64 S', .int .i64 X', .int .i64 Y'] 65)); clear hm hk))
      obtain ⟨Hp, hHp⟩ : ∃ Hp, w9.heap.size = Hp := ⟨_, rfl⟩
      rw [hHp] at hp hPF
      (try rw [hHp])
      have hSd := hSa.no ((Keeps.refl NoS _).drew)
      have hpd := hp.keep ((Keeps.refl NoS _).drew) (fun f => f)
      clear hHp m0 m1 m2 m3 m4 d0 d1 d2 d3 n0 n1 n2 n3 n4 e0 e1 e2 e3 p0 p1 p2 p3 p4 g0 g1 g2 g3
      generalize w9.alloc (.cells #[.int .i64 K', .int .i64 S', .int .i64 X', .int .i64 Y'] 65) = wa at *
      have hS := hSd
      have hp := hpd
      refine wp_region_held_drew (S := (fun w' => (w'.cell? ⟨B, 0, none⟩ = some (.int .i64 2) ∧ w'.cell? ⟨B, 1, none⟩ = some (.int .i64 2) ∧ w'.cell? ⟨B, 2, none⟩ = some (.int .i64 4) ∧ w'.cell? ⟨B, 3, none⟩ = some (.int .i64 0) ∧ w'.cell? ⟨B, 4, none⟩ = some (.int .i64 2)) ∧ (w'.cell? ⟨H, 0, none⟩ = some (.int .i64 3) ∧ w'.cell? ⟨H, 1, none⟩ = some (.int .i64 q1) ∧ w'.cell? ⟨H, 2, none⟩ = some (.int .i64 r2) ∧ w'.cell? ⟨H, 3, none⟩ = some (.int .i64 y0)))) (by kernel_rfl) (hS.cells) (fun hHeld => ?_)
      generalize wa.drew = wd at *
      refine wpAnyH_take (i := 0) (v := ?_) (by simp only [List.getElem?_toArray, List.getElem?_cons_succ, List.getElem?_cons_zero]; rfl) (by kernel_rfl) (by kernel_rfl) (by kernel_rfl) (by exact fun _ _ _ h => h) (Or.inl ⟨by rfl, ?_⟩) hHeld ?_
      rotate_left
      · intro w hSw; (try dsimp only at hSw); go_simp; (try with_reducible rfl)
      try simp only [Act.put, List.setIfInBounds_toArray, List.set_cons_zero, List.set_cons_succ]
      refine wpAnyH_take (i := 2) (v := ?_) (by simp only [List.getElem?_toArray, List.getElem?_cons_succ, List.getElem?_cons_zero]; rfl) (by kernel_rfl) (by kernel_rfl) (by kernel_rfl) (by exact fun _ _ _ h => h) (Or.inl ⟨by rfl, ?_⟩) hHeld ?_
      rotate_left
      · intro w hSw; (try dsimp only at hSw); go_simp; (try with_reducible rfl)
      try simp only [Act.put, List.setIfInBounds_toArray, List.set_cons_zero, List.set_cons_succ]
      refine wpAnyH_take (i := 3) (v := ?_) (by simp only [List.getElem?_toArray, List.getElem?_cons_succ, List.getElem?_cons_zero]; rfl) (by kernel_rfl) (by kernel_rfl) (by kernel_rfl) (by exact fun _ _ _ h => h) (Or.inl ⟨by rfl, ?_⟩) hHeld ?_
      rotate_left
      · intro w hSw; (try dsimp only at hSw); go_simp; (try with_reducible rfl)
      try simp only [Act.put, List.setIfInBounds_toArray, List.set_cons_zero, List.set_cons_succ]
      refine wpAnyH_take (i := 4) (v := ?_) (by simp only [List.getElem?_toArray, List.getElem?_cons_succ, List.getElem?_cons_zero]; rfl) (by kernel_rfl) (by kernel_rfl) (by kernel_rfl) (by exact fun _ _ _ h => h) (Or.inl ⟨by rfl, ?_⟩) hHeld ?_
      rotate_left
      · intro w hSw; (try dsimp only at hSw); go_simp; (try with_reducible rfl)
      try simp only [Act.put, List.setIfInBounds_toArray, List.set_cons_zero, List.set_cons_succ]
      refine wpAnyH_take (i := 5) (v := ?_) (by simp only [List.getElem?_toArray, List.getElem?_cons_succ, List.getElem?_cons_zero]; rfl) (by kernel_rfl) (by kernel_rfl) (by kernel_rfl) (by exact fun _ _ _ h => h) (Or.inl ⟨by rfl, ?_⟩) hHeld ?_
      rotate_left
      · intro w hSw; (try dsimp only at hSw); go_simp; (try with_reducible rfl)
      try simp only [Act.put, List.setIfInBounds_toArray, List.set_cons_zero, List.set_cons_succ]
      refine wpAnyH_take (i := 6) (v := ?_) (by simp only [List.getElem?_toArray, List.getElem?_cons_succ, List.getElem?_cons_zero]; rfl) (by kernel_rfl) (by kernel_rfl) (by kernel_rfl) (by exact fun _ _ _ h => h) (Or.inl ⟨by rfl, ?_⟩) hHeld ?_
      rotate_left
      · intro w hSw; (try dsimp only at hSw); go_simp; (try with_reducible rfl)
      try simp only [Act.put, List.setIfInBounds_toArray, List.set_cons_zero, List.set_cons_succ]
      refine wpAnyH_take (i := 7) (v := ?_) (by simp only [List.getElem?_toArray, List.getElem?_cons_succ, List.getElem?_cons_zero]; rfl) (by kernel_rfl) (by kernel_rfl) (by kernel_rfl) (by exact fun _ _ _ h => h) (Or.inl ⟨by rfl, ?_⟩) hHeld ?_
      rotate_left
      · intro w hSw; (try dsimp only at hSw); go_simp; (try with_reducible rfl)
      try simp only [Act.put, List.setIfInBounds_toArray, List.set_cons_zero, List.set_cons_succ]
      refine wpAnyH_take (i := 8) (v := ?_) (by simp only [List.getElem?_toArray, List.getElem?_cons_succ, List.getElem?_cons_zero]; rfl) (by kernel_rfl) (by kernel_rfl) (by kernel_rfl) (by exact fun _ _ _ h => h) (Or.inl ⟨by rfl, ?_⟩) hHeld ?_
      rotate_left
      · intro w hSw; (try dsimp only at hSw); go_simp; (try with_reducible rfl)
      try simp only [Act.put, List.setIfInBounds_toArray, List.set_cons_zero, List.set_cons_succ]
      refine wpAnyH_take (i := 9) (v := ?_) (by simp only [List.getElem?_toArray, List.getElem?_cons_succ, List.getElem?_cons_zero]; rfl) (by kernel_rfl) (by kernel_rfl) (by kernel_rfl) (by exact fun _ _ _ h => h) (Or.inl ⟨by rfl, ?_⟩) hHeld ?_
      rotate_left
      · intro w hSw; (try dsimp only at hSw); go_simp; (try with_reducible rfl)
      try simp only [Act.put, List.setIfInBounds_toArray, List.set_cons_zero, List.set_cons_succ]
      refine wpAnyH_take (i := 10) (v := ?_) (by simp only [List.getElem?_toArray, List.getElem?_cons_succ, List.getElem?_cons_zero]; rfl) (by kernel_rfl) (by kernel_rfl) (by kernel_rfl) (by exact fun _ _ _ h => h) (Or.inl ⟨by rfl, ?_⟩) hHeld ?_
      rotate_left
      · intro w hSw; (try dsimp only at hSw); go_simp; (try with_reducible rfl)
      try simp only [Act.put, List.setIfInBounds_toArray, List.set_cons_zero, List.set_cons_succ]
      refine wpAnyH_take (i := 11) (v := ?_) (by simp only [List.getElem?_toArray, List.getElem?_cons_succ, List.getElem?_cons_zero]; rfl) (by kernel_rfl) (by kernel_rfl) (by kernel_rfl) (by exact fun _ _ _ h => h) (Or.inl ⟨by rfl, ?_⟩) hHeld ?_
      rotate_left
      · intro w hSw; (try dsimp only at hSw); go_simp; (try with_reducible rfl)
      try simp only [Act.put, List.setIfInBounds_toArray, List.set_cons_zero, List.set_cons_succ]
      refine wpAnyH_ready (rs := [1, 13]) (by kernel_rfl) (by simp) ?_
      refine AllReadyH.cons (by simp only [List.getElem?_toArray, List.getElem?_cons_succ, List.getElem?_cons_zero]; rfl) (fun kC hkC => ?_) (AllReadyH.cons (by simp only [List.getElem?_toArray, List.getElem?_cons_succ, List.getElem?_cons_zero]; rfl) (fun kC hkC => ?_) AllReadyH.nil)
      go_simp
      refine (ref_any ⟨2, 2, 4, 0, 2⟩ _).mono ?_; rintro r wR ⟨rfl, hkR⟩; have hS := hS.no hkR; have hp := hp.keep hkR (fun f => f); (try (have hb := hb.keep hkR (fun f => f))); unfold mapV; dsimp only; (try go_wp2_with fail)
      refine hkC.out _ _ ?_ (fun hHeld => ?_)
      · exact (hS.cells)
      clear hkC kC
      try simp only [Act.put, List.setIfInBounds_toArray, List.set_cons_zero, List.set_cons_succ]
      refine wpAnyH_ready (rs := [12, 13]) (by kernel_rfl) (by simp) ?_
      refine AllReadyH.cons (by simp only [List.getElem?_toArray, List.getElem?_cons_succ, List.getElem?_cons_zero]; rfl) (fun kC hkC => ?_) (AllReadyH.cons (by simp only [List.getElem?_toArray, List.getElem?_cons_succ, List.getElem?_cons_zero]; rfl) (fun kC hkC => ?_) AllReadyH.nil)
      go_simp
      refine (rstep_any 2 2 4 0 2 3 q1 r2 y0 c u M2 _ hS.t.r.m HL2.out).mono ?_; rw [HST.out]; unfold bumpV; dsimp only; rintro r wT ⟨rfl, hmT, hkT⟩; (try (have hb := hb.keep hkT hN.2.2.1; obtain ⟨⟨b0, b1, b2, b3⟩, o0, o1, o2, o3, oz⟩ := hb.cells)); have hp := hp.keep hkT hPF.2.2.1; have hS := hS.turnR HF.out hmT hkT; (try go_wp2_with fail)
      refine hkC.out _ _ ?_ (fun hHeld => ?_)
      · exact (hS.cells)
      clear hkC kC
      try simp only [Act.put, List.setIfInBounds_toArray, List.set_cons_zero, List.set_cons_succ]
      refine wpAnyH_ready (rs := [13]) (by kernel_rfl) (by simp) ?_
      refine AllReadyH.cons (by simp only [List.getElem?_toArray, List.getElem?_cons_succ, List.getElem?_cons_zero]; rfl) (fun kC hkC => ?_) AllReadyH.nil
      go_simp
      have hS0 := hS; have hp0 := hp; obtain ⟨hb, hN, hS, hp⟩ := hS.bumpNew 85 hp; obtain ⟨⟨b0, b1, b2, b3⟩, o0, o1, o2, o3, oz⟩ := hb.cells
      refine hkC.out _ _ ?_ (fun hHeld => ?_)
      · exact (hS.cells)
      clear hkC kC
      try simp only [Act.put, List.setIfInBounds_toArray, List.set_cons_zero, List.set_cons_succ]
      refine wpAnyH_ready (rs := [14]) (by kernel_rfl) (by simp) ?_
      refine AllReadyH.cons (by simp only [List.getElem?_toArray, List.getElem?_cons_succ, List.getElem?_cons_zero]; rfl) (fun kC hkC => ?_) AllReadyH.nil
      go_simp
      refine hkC.out _ _ ?_ (fun hHeld => ?_)
      · exact ((by first | exact (hS0.no ((Keeps.refl NoS wT).alloc (.cells #[.int .i64 K', .int .i64 S', .int .i64 X', .int .i64 Y'] 85))).cells | exact (hS.set hN.1 hN.2.1 hN.2.2.1 hN.2.2.2.1 hN.2.2.2.2.1 (setQ_keeps wT _ ⟨K', S', X', Y'⟩)).cells))
      clear hkC kC
      try simp only [Act.put, List.setIfInBounds_toArray, List.set_cons_zero, List.set_cons_succ]
      refine wpAnyH_done (by kernel_rfl) ?_ _
      rotate_left
      go_simp
      have hS0 := hS; have hp0 := hp; obtain ⟨hb, hN, hS, hp⟩ := hS.bumpNew 85 hp; obtain ⟨⟨b0, b1, b2, b3⟩, o0, o1, o2, o3, oz⟩ := hb.cells
      refine hkC.out _ _ ?_ (fun hHeld => ?_)
      · exact (hS.cells)
      clear hkC kC
      try simp only [Act.put, List.setIfInBounds_toArray, List.set_cons_zero, List.set_cons_succ]
      refine wpAnyH_ready (rs := [12]) (by kernel_rfl) (by simp) ?_
      refine AllReadyH.cons (by simp only [List.getElem?_toArray, List.getElem?_cons_succ, List.getElem?_cons_zero]; rfl) (fun kC hkC => ?_) AllReadyH.nil
      go_simp
      refine (rstep_any 2 2 4 0 2 3 q1 r2 y0 c u M2 _ hS.t.r.m HL2.out).mono ?_; rw [HST.out]; unfold bumpV; dsimp only; rintro r wT ⟨rfl, hmT, hkT⟩; (try (have hb := hb.keep hkT hN.2.2.1; obtain ⟨⟨b0, b1, b2, b3⟩, o0, o1, o2, o3, oz⟩ := hb.cells)); have hp := hp.keep hkT hPF.2.2.1; have hS := hS.turnR HF.out hmT hkT; (try go_wp2_with fail)
      refine hkC.out _ _ ?_ (fun hHeld => ?_)
      · exact (hS.cells)
      clear hkC kC
      try simp only [Act.put, List.setIfInBounds_toArray, List.set_cons_zero, List.set_cons_succ]
      refine wpAnyH_ready (rs := [14]) (by kernel_rfl) (by simp) ?_
      refine AllReadyH.cons (by simp only [List.getElem?_toArray, List.getElem?_cons_succ, List.getElem?_cons_zero]; rfl) (fun kC hkC => ?_) AllReadyH.nil
      go_simp
      refine hkC.out _ _ ?_ (fun hHeld => ?_)
      · exact ((by first | exact (hS0.no ((Keeps.refl NoS wT).alloc (.cells #[.int .i64 K', .int .i64 S', .int .i64 X', .int .i64 Y'] 85))).cells | exact (hS.set hN.1 hN.2.1 hN.2.2.1 hN.2.2.2.1 hN.2.2.2.2.1 (setQ_keeps wT _ ⟨K', S', X', Y'⟩)).cells))
      clear hkC kC
      try simp only [Act.put, List.setIfInBounds_toArray, List.set_cons_zero, List.set_cons_succ]
      refine wpAnyH_done (by kernel_rfl) ?_ _
      rotate_left
      go_simp
      have hS0 := hS; have hp0 := hp; obtain ⟨hb, hN, hS, hp⟩ := hS.bumpNew 85 hp; obtain ⟨⟨b0, b1, b2, b3⟩, o0, o1, o2, o3, oz⟩ := hb.cells
      refine hkC.out _ _ ?_ (fun hHeld => ?_)
      · exact (hS.cells)
      clear hkC kC
      try simp only [Act.put, List.setIfInBounds_toArray, List.set_cons_zero, List.set_cons_succ]
      refine wpAnyH_ready (rs := [1]) (by kernel_rfl) (by simp) ?_
      refine AllReadyH.cons (by simp only [List.getElem?_toArray, List.getElem?_cons_succ, List.getElem?_cons_zero]; rfl) (fun kC hkC => ?_) AllReadyH.nil
      go_simp
      refine (ref_any ⟨2, 2, 4, 0, 2⟩ _).mono ?_; rintro r wR ⟨rfl, hkR⟩; have hS := hS.no hkR; have hp := hp.keep hkR (fun f => f); (try (have hb := hb.keep hkR (fun f => f))); unfold mapV; dsimp only; (try go_wp2_with fail)
      refine hkC.out _ _ ?_ (fun hHeld => ?_)
      · exact (hS.cells)
      clear hkC kC
      try simp only [Act.put, List.setIfInBounds_toArray, List.set_cons_zero, List.set_cons_succ]
      refine wpAnyH_ready (rs := [12]) (by kernel_rfl) (by simp) ?_
      refine AllReadyH.cons (by simp only [List.getElem?_toArray, List.getElem?_cons_succ, List.getElem?_cons_zero]; rfl) (fun kC hkC => ?_) AllReadyH.nil
      go_simp
      refine (rstep_any 2 2 4 0 2 3 q1 r2 y0 c u M2 _ hS.t.r.m HL2.out).mono ?_; rw [HST.out]; unfold bumpV; dsimp only; rintro r wT ⟨rfl, hmT, hkT⟩; (try (have hb := hb.keep hkT hN.2.2.1; obtain ⟨⟨b0, b1, b2, b3⟩, o0, o1, o2, o3, oz⟩ := hb.cells)); have hp := hp.keep hkT hPF.2.2.1; have hS := hS.turnR HF.out hmT hkT; (try go_wp2_with fail)
      refine hkC.out _ _ ?_ (fun hHeld => ?_)
      · exact (hS.cells)
      clear hkC kC
      try simp only [Act.put, List.setIfInBounds_toArray, List.set_cons_zero, List.set_cons_succ]
      refine wpAnyH_ready (rs := [14]) (by kernel_rfl) (by simp) ?_
      refine AllReadyH.cons (by simp only [List.getElem?_toArray, List.getElem?_cons_succ, List.getElem?_cons_zero]; rfl) (fun kC hkC => ?_) AllReadyH.nil
      go_simp
      refine hkC.out _ _ ?_ (fun hHeld => ?_)
      · exact ((by first | exact (hS0.no ((Keeps.refl NoS wT).alloc (.cells #[.int .i64 K', .int .i64 S', .int .i64 X', .int .i64 Y'] 85))).cells | exact (hS.set hN.1 hN.2.1 hN.2.2.1 hN.2.2.2.1 hN.2.2.2.2.1 (setQ_keeps wT _ ⟨K', S', X', Y'⟩)).cells))
      clear hkC kC
      try simp only [Act.put, List.setIfInBounds_toArray, List.set_cons_zero, List.set_cons_succ]
      refine wpAnyH_done (by kernel_rfl) ?_ _
      rotate_left
      all_goals
        first
          | (have hS2 := hS0.no ((Keeps.refl NoS wT).alloc (.cells #[.int .i64 K', .int .i64 S', .int .i64 X', .int .i64 Y'] 85)); have hp2 := hp0.keep ((Keeps.refl NoS wT).alloc (.cells #[.int .i64 K', .int .i64 S', .int .i64 X', .int .i64 Y'] 85)) (fun f => f); have hb2 := bumpAt_new wT 85 K' S' X' Y')
          | (have hS2 := hS.set hN.1 hN.2.1 hN.2.2.1 hN.2.2.2.1 hN.2.2.2.2.1 (setQ_keeps wT _ ⟨K', S', X', Y'⟩); have hp2 := hp.keep (setQ_keeps wT _ ⟨K', S', X', Y'⟩) hN.2.2.2.2.2; have hb2 := hb.setQ ⟨K', S', X', Y'⟩)
        clear hS0 hp0 hS hp hb hN b0 b1 b2 b3 o0 o1 o2 o3 oz hHeld hSd hpd hSa
        have hb := hb2; have hp := hp2; have hS := hS2
        first
          | (obtain ⟨g, hg⟩ : ∃ g, wT.heap.size = g := ⟨_, rfl⟩; rw [hg] at hb; rw [hg])
          | (obtain ⟨g, hg⟩ : ∃ g, wR.heap.size = g := ⟨_, rfl⟩; rw [hg] at hb; rw [hg])
          | (obtain ⟨g, hg⟩ : ∃ g, wd.heap.size = g := ⟨_, rfl⟩; rw [hg] at hb; rw [hg])
        (try rw [hg] at hS)
        (try rw [hg] at hp)
        (try unfold setQ at hS hp hb)
        (try dsimp only at hS)
        (try dsimp only at hp)
        (try dsimp only at hb)
        (try (go_upto_region 16 with fail))
        replace hS := hS.no ((Keeps.refl NoS _).drew)
        replace hp := hp.keep ((Keeps.refl NoS _).drew) (fun f => f)
        replace hb := hb.keep ((Keeps.refl NoS _).drew) (fun f => f)
        obtain ⟨sb, hsb⟩ : ∃ sb, startB q3 q4 = sb := ⟨_, rfl⟩
        obtain ⟨k2, s2, x2, y2⟩ := sb
        have HSB := Lib.hid hsb
        clear hsb hb2 hp2 hS2 hg
        refine wp_region_held_drew (S := (fun w' => (w'.cell? ⟨B, 0, none⟩ = some (.int .i64 2) ∧ w'.cell? ⟨B, 1, none⟩ = some (.int .i64 2) ∧ w'.cell? ⟨B, 2, none⟩ = some (.int .i64 4) ∧ w'.cell? ⟨B, 3, none⟩ = some (.int .i64 0) ∧ w'.cell? ⟨B, 4, none⟩ = some (.int .i64 2)) ∧ (w'.cell? ⟨H, 0, none⟩ = some (.int .i64 3) ∧ w'.cell? ⟨H, 1, none⟩ = some (.int .i64 q1) ∧ w'.cell? ⟨H, 2, none⟩ = some (.int .i64 r2) ∧ w'.cell? ⟨H, 3, none⟩ = some (.int .i64 y0)) ∧ (w'.cell? ⟨Hp, 0, none⟩ = some (.int .i64 K') ∧ w'.cell? ⟨Hp, 1, none⟩ = some (.int .i64 S') ∧ w'.cell? ⟨Hp, 2, none⟩ = some (.int .i64 X') ∧ w'.cell? ⟨Hp, 3, none⟩ = some (.int .i64 Y')) ∧ (w'.cell? ⟨g, 0, none⟩ = some (.int .i64 K') ∧ w'.cell? ⟨g, 1, none⟩ = some (.int .i64 S') ∧ w'.cell? ⟨g, 2, none⟩ = some (.int .i64 X') ∧ w'.cell? ⟨g, 3, none⟩ = some (.int .i64 Y')))) (by kernel_rfl) (⟨hS.cells.1, hS.cells.2, hp.cells.1, hb.cells.1⟩) (fun hHeld => ?_)
        refine wpAnyH_ready (rs := [0]) (by kernel_rfl) (by simp) ?_
        refine AllReadyH.cons (by simp only [List.getElem?_toArray, List.getElem?_cons_succ, List.getElem?_cons_zero]; rfl) (fun kC hkC => ?_) AllReadyH.nil
        go_simp
        refine (told11_any _).mono ?_; rintro r wA ⟨rfl, hkA⟩; have hS := hS.no hkA; have hp := hp.keep hkA (fun f => f); have hb := hb.keep hkA (fun f => f)
        (try go_wp2_with fail)
        refine hkC.out _ _ (⟨hS.cells.1, hS.cells.2, hp.cells.1, hb.cells.1⟩) (fun hHeld => ?_)
        clear hkC kC
        try simp only [Act.put, List.setIfInBounds_toArray, List.set_cons_zero, List.set_cons_succ]
        refine wpAnyH_take (i := 1) (v := ?_) (by simp only [List.getElem?_toArray, List.getElem?_cons_succ, List.getElem?_cons_zero]; rfl) (by kernel_rfl) (by kernel_rfl) (by kernel_rfl) (by exact fun _ _ _ h => h) (Or.inl ⟨by rfl, ?_⟩) hHeld ?_
        rotate_left
        · intro w hSw; (try dsimp only at hSw); go_simp; (try with_reducible rfl)
        try simp only [Act.put, List.setIfInBounds_toArray, List.set_cons_zero, List.set_cons_succ]
        refine wpAnyH_take (i := 2) (v := ?_) (by simp only [List.getElem?_toArray, List.getElem?_cons_succ, List.getElem?_cons_zero]; rfl) (by kernel_rfl) (by kernel_rfl) (by kernel_rfl) (by exact fun _ _ _ h => h) (Or.inl ⟨by rfl, ?_⟩) hHeld ?_
        rotate_left
        · intro w hSw; (try dsimp only at hSw); go_simp; (try with_reducible rfl)
        try simp only [Act.put, List.setIfInBounds_toArray, List.set_cons_zero, List.set_cons_succ]
        refine wpAnyH_take (i := 3) (v := ?_) (by simp only [List.getElem?_toArray, List.getElem?_cons_succ, List.getElem?_cons_zero]; rfl) (by kernel_rfl) (by kernel_rfl) (by kernel_rfl) (by exact fun _ _ _ h => h) (Or.inl ⟨by rfl, ?_⟩) hHeld ?_
        rotate_left
        · intro w hSw; (try dsimp only at hSw); go_simp; (try with_reducible rfl)
        try simp only [Act.put, List.setIfInBounds_toArray, List.set_cons_zero, List.set_cons_succ]
        refine wpAnyH_ready (rs := [4]) (by kernel_rfl) (by simp) ?_
        refine AllReadyH.cons (by simp only [List.getElem?_toArray, List.getElem?_cons_succ, List.getElem?_cons_zero]; rfl) (fun kC hkC => ?_) AllReadyH.nil
        go_simp
        refine (likeB_any K' S' X' Y' _).mono ?_; rintro r wB ⟨rfl, hkB⟩; have hS := hS.no hkB; have hp := hp.keep hkB (fun f => f); have hb := hb.keep hkB (fun f => f)
        (try go_wp2_with fail)
        refine hkC.out _ _ (⟨hS.cells.1, hS.cells.2, hp.cells.1, hb.cells.1⟩) (fun hHeld => ?_)
        clear hkC kC
        try simp only [Act.put, List.setIfInBounds_toArray, List.set_cons_zero, List.set_cons_succ]
        refine wpAnyH_take (i := 5) (v := ?_) (by simp only [List.getElem?_toArray, List.getElem?_cons_succ, List.getElem?_cons_zero]; rfl) (by kernel_rfl) (by kernel_rfl) (by kernel_rfl) (by exact fun _ _ _ h => h) (Or.inl ⟨by rfl, ?_⟩) hHeld ?_
        rotate_left
        · intro w hSw; (try dsimp only at hSw); go_simp; (try with_reducible rfl)
        try simp only [Act.put, List.setIfInBounds_toArray, List.set_cons_zero, List.set_cons_succ]
        refine wpAnyH_take (i := 6) (v := ?_) (by simp only [List.getElem?_toArray, List.getElem?_cons_succ, List.getElem?_cons_zero]; rfl) (by kernel_rfl) (by kernel_rfl) (by kernel_rfl) (by exact fun _ _ _ h => h) (Or.inl ⟨by rfl, ?_⟩) hHeld ?_
        rotate_left
        · intro w hSw; (try dsimp only at hSw); go_simp; (try with_reducible rfl)
        try simp only [Act.put, List.setIfInBounds_toArray, List.set_cons_zero, List.set_cons_succ]
        refine wpAnyH_take (i := 7) (v := ?_) (by simp only [List.getElem?_toArray, List.getElem?_cons_succ, List.getElem?_cons_zero]; rfl) (by kernel_rfl) (by kernel_rfl) (by kernel_rfl) (by exact fun _ _ _ h => h) (Or.inl ⟨by rfl, ?_⟩) hHeld ?_
        rotate_left
        · intro w hSw; (try dsimp only at hSw); go_simp; (try with_reducible rfl)
        try simp only [Act.put, List.setIfInBounds_toArray, List.set_cons_zero, List.set_cons_succ]
        refine wpAnyH_take (i := 8) (v := ?_) (by simp only [List.getElem?_toArray, List.getElem?_cons_succ, List.getElem?_cons_zero]; rfl) (by kernel_rfl) (by kernel_rfl) (by kernel_rfl) (by exact fun _ _ _ h => h) (Or.inl ⟨by rfl, ?_⟩) hHeld ?_
        rotate_left
        · intro w hSw; (try dsimp only at hSw); go_simp; (try with_reducible rfl)
        try simp only [Act.put, List.setIfInBounds_toArray, List.set_cons_zero, List.set_cons_succ]
        refine wpAnyH_ready (rs := [9]) (by kernel_rfl) (by simp) ?_
        refine AllReadyH.cons (by simp only [List.getElem?_toArray, List.getElem?_cons_succ, List.getElem?_cons_zero]; rfl) (fun kC hkC => ?_) AllReadyH.nil
        go_simp
        refine (same_any a c v u M' M' _ hS.t.s.m hS.t.r.m rfl).mono ?_; rintro r wC ⟨rfl, hkC'⟩; have hS := hS.no hkC'; have hp := hp.keep hkC' (fun f => f); have hb := hb.keep hkC' (fun f => f)
        (try go_wp2_with fail)
        refine hkC.out _ _ (⟨hS.cells.1, hS.cells.2, hp.cells.1, hb.cells.1⟩) (fun hHeld => ?_)
        clear hkC kC
        try simp only [Act.put, List.setIfInBounds_toArray, List.set_cons_zero, List.set_cons_succ]
        refine wpAnyH_take (i := 10) (v := ?_) (by simp only [List.getElem?_toArray, List.getElem?_cons_succ, List.getElem?_cons_zero]; rfl) (by kernel_rfl) (by kernel_rfl) (by kernel_rfl) (by exact fun _ _ _ h => h) (Or.inl ⟨by rfl, ?_⟩) hHeld ?_
        rotate_left
        · intro w hSw; (try dsimp only at hSw); go_simp; (try with_reducible rfl)
        try simp only [Act.put, List.setIfInBounds_toArray, List.set_cons_zero, List.set_cons_succ]
        refine wpAnyH_take (i := 11) (v := ?_) (by simp only [List.getElem?_toArray, List.getElem?_cons_succ, List.getElem?_cons_zero]; rfl) (by kernel_rfl) (by kernel_rfl) (by kernel_rfl) (by exact fun _ _ _ h => h) (Or.inl ⟨by rfl, ?_⟩) hHeld ?_
        rotate_left
        · intro w hSw; (try dsimp only at hSw); go_simp; (try with_reducible rfl)
        try simp only [Act.put, List.setIfInBounds_toArray, List.set_cons_zero, List.set_cons_succ]
        refine wpAnyH_take (i := 12) (v := ?_) (by simp only [List.getElem?_toArray, List.getElem?_cons_succ, List.getElem?_cons_zero]; rfl) (by kernel_rfl) (by kernel_rfl) (by kernel_rfl) (by exact fun _ _ _ h => h) (Or.inl ⟨by rfl, ?_⟩) hHeld ?_
        rotate_left
        · intro w hSw; (try dsimp only at hSw); go_simp; (try with_reducible rfl)
        try simp only [Act.put, List.setIfInBounds_toArray, List.set_cons_zero, List.set_cons_succ]
        refine wpAnyH_take (i := 13) (v := ?_) (by simp only [List.getElem?_toArray, List.getElem?_cons_succ, List.getElem?_cons_zero]; rfl) (by kernel_rfl) (by kernel_rfl) (by kernel_rfl) (by exact fun _ _ _ h => h) (Or.inl ⟨by rfl, ?_⟩) hHeld ?_
        rotate_left
        · intro w hSw; (try dsimp only at hSw); go_simp; (try with_reducible rfl)
        try simp only [Act.put, List.setIfInBounds_toArray, List.set_cons_zero, List.set_cons_succ]
        refine wpAnyH_ready (rs := [14]) (by kernel_rfl) (by simp) ?_
        refine AllReadyH.cons (by simp only [List.getElem?_toArray, List.getElem?_cons_succ, List.getElem?_cons_zero]; rfl) (fun kC hkC => ?_) AllReadyH.nil
        go_simp
        refine (like_keep w _ a c v u M' hS.t).mono ?_; rintro r wD ⟨rfl, _, hkD⟩; have hS := hS.no hkD; have hp := hp.keep hkD (fun f => f); have hb := hb.keep hkD (fun f => f)
        (try go_wp2_with fail)
        refine hkC.out _ _ (⟨hS.cells.1, hS.cells.2, hp.cells.1, hb.cells.1⟩) (fun hHeld => ?_)
        clear hkC kC
        try simp only [Act.put, List.setIfInBounds_toArray, List.set_cons_zero, List.set_cons_succ]
        refine wpAnyH_take (i := 15) (v := ?_) (by simp only [List.getElem?_toArray, List.getElem?_cons_succ, List.getElem?_cons_zero]; rfl) (by kernel_rfl) (by kernel_rfl) (by kernel_rfl) (by exact fun _ _ _ h => h) (Or.inl ⟨by rfl, ?_⟩) hHeld ?_
        rotate_left
        · intro w hSw; (try dsimp only at hSw); go_simp; (try with_reducible rfl)
        try simp only [Act.put, List.setIfInBounds_toArray, List.set_cons_zero, List.set_cons_succ]
        refine wpAnyH_take (i := 16) (v := ?_) (by simp only [List.getElem?_toArray, List.getElem?_cons_succ, List.getElem?_cons_zero]; rfl) (by kernel_rfl) (by kernel_rfl) (by kernel_rfl) (by exact fun _ _ _ h => h) (Or.inl ⟨by rfl, ?_⟩) hHeld ?_
        rotate_left
        · intro w hSw; (try dsimp only at hSw); go_simp; (try with_reducible rfl)
        try simp only [Act.put, List.setIfInBounds_toArray, List.set_cons_zero, List.set_cons_succ]
        refine wpAnyH_take (i := 17) (v := ?_) (by simp only [List.getElem?_toArray, List.getElem?_cons_succ, List.getElem?_cons_zero]; rfl) (by kernel_rfl) (by kernel_rfl) (by kernel_rfl) (by exact fun _ _ _ h => h) (Or.inl ⟨by rfl, ?_⟩) hHeld ?_
        rotate_left
        · intro w hSw; (try dsimp only at hSw); go_simp; (try with_reducible rfl)
        try simp only [Act.put, List.setIfInBounds_toArray, List.set_cons_zero, List.set_cons_succ]
        refine wpAnyH_take (i := 18) (v := ?_) (by simp only [List.getElem?_toArray, List.getElem?_cons_succ, List.getElem?_cons_zero]; rfl) (by kernel_rfl) (by kernel_rfl) (by kernel_rfl) (by exact fun _ _ _ h => h) (Or.inl ⟨by rfl, ?_⟩) hHeld ?_
        rotate_left
        · intro w hSw; (try dsimp only at hSw); go_simp; (try with_reducible rfl)
        try simp only [Act.put, List.setIfInBounds_toArray, List.set_cons_zero, List.set_cons_succ]
        refine wpAnyH_take (i := 20) (v := ?_) (by simp only [List.getElem?_toArray, List.getElem?_cons_succ, List.getElem?_cons_zero]; rfl) (by kernel_rfl) (by kernel_rfl) (by kernel_rfl) (by exact fun _ _ _ h => h) (Or.inl ⟨by rfl, ?_⟩) hHeld ?_
        rotate_left
        · intro w hSw; (try dsimp only at hSw); go_simp; (try with_reducible rfl)
        try simp only [Act.put, List.setIfInBounds_toArray, List.set_cons_zero, List.set_cons_succ]
        refine wpAnyH_take (i := 21) (v := ?_) (by simp only [List.getElem?_toArray, List.getElem?_cons_succ, List.getElem?_cons_zero]; rfl) (by kernel_rfl) (by kernel_rfl) (by kernel_rfl) (by exact fun _ _ _ h => h) (Or.inl ⟨by rfl, ?_⟩) hHeld ?_
        rotate_left
        · intro w hSw; (try dsimp only at hSw); go_simp; (try with_reducible rfl)
        try simp only [Act.put, List.setIfInBounds_toArray, List.set_cons_zero, List.set_cons_succ]
        refine wpAnyH_ready (rs := [19]) (by kernel_rfl) (by simp) ?_
        refine AllReadyH.cons (by simp only [List.getElem?_toArray, List.getElem?_cons_succ, List.getElem?_cons_zero]; rfl) (fun kC hkC => ?_) AllReadyH.nil
        go_simp
        refine (start_any q3 q4 _).mono ?_; rw [HSB.out]; unfold bumpV; dsimp only; rintro r wE ⟨rfl, hkE⟩; have hS := hS.no hkE; have hp := hp.keep hkE (fun f => f); have hb := hb.keep hkE (fun f => f)
        (try go_wp2_with fail)
        refine hkC.out _ _ (⟨hS.cells.1, hS.cells.2, hp.cells.1, hb.cells.1⟩) (fun hHeld => ?_)
        clear hkC kC
        try simp only [Act.put, List.setIfInBounds_toArray, List.set_cons_zero, List.set_cons_succ]
        refine wpAnyH_ready (rs := [22]) (by kernel_rfl) (by simp) ?_
        refine AllReadyH.cons (by simp only [List.getElem?_toArray, List.getElem?_cons_succ, List.getElem?_cons_zero]; rfl) (fun kC hkC => ?_) AllReadyH.nil
        go_simp
        refine (rstart_any q3 q4 _).mono ?_; rw [HSB.out]; unfold bumpV; dsimp only; rintro r wF ⟨rfl, hkF⟩; have hS := hS.no hkF; have hp := hp.keep hkF (fun f => f); have hb := hb.keep hkF (fun f => f)
        (try go_wp2_with fail)
        refine hkC.out _ _ (⟨hS.cells.1, hS.cells.2, hp.cells.1, hb.cells.1⟩) (fun hHeld => ?_)
        clear hkC kC
        try simp only [Act.put, List.setIfInBounds_toArray, List.set_cons_zero, List.set_cons_succ]
        refine wpAnyH_ready (rs := [23]) (by kernel_rfl) (by simp) ?_
        refine AllReadyH.cons (by simp only [List.getElem?_toArray, List.getElem?_cons_succ, List.getElem?_cons_zero]; rfl) (fun kC hkC => ?_) AllReadyH.nil
        go_simp
        refine (likeB_any k2 s2 x2 y2 _).mono ?_; rintro r wG ⟨rfl, hkG⟩; have hS := hS.no hkG; have hp := hp.keep hkG (fun f => f); have hb := hb.keep hkG (fun f => f)
        (try go_wp2_with fail)
        refine hkC.out _ _ (⟨hS.cells.1, hS.cells.2, hp.cells.1, hb.cells.1⟩) (fun hHeld => ?_)
        clear hkC kC
        try simp only [Act.put, List.setIfInBounds_toArray, List.set_cons_zero, List.set_cons_succ]
        refine wpAnyH_take (i := 24) (v := ?_) (by simp only [List.getElem?_toArray, List.getElem?_cons_succ, List.getElem?_cons_zero]; rfl) (by kernel_rfl) (by kernel_rfl) (by kernel_rfl) (by exact fun _ _ _ h => h) (Or.inl ⟨by rfl, ?_⟩) hHeld ?_
        rotate_left
        · intro w hSw; (try dsimp only at hSw); go_simp; (try with_reducible rfl)
        try simp only [Act.put, List.setIfInBounds_toArray, List.set_cons_zero, List.set_cons_succ]
        refine wpAnyH_take (i := 25) (v := ?_) (by simp only [List.getElem?_toArray, List.getElem?_cons_succ, List.getElem?_cons_zero]; rfl) (by kernel_rfl) (by kernel_rfl) (by kernel_rfl) (by exact fun _ _ _ h => h) (Or.inl ⟨by rfl, ?_⟩) hHeld ?_
        rotate_left
        · intro w hSw; (try dsimp only at hSw); go_simp; (try with_reducible rfl)
        try simp only [Act.put, List.setIfInBounds_toArray, List.set_cons_zero, List.set_cons_succ]
        refine wpAnyH_take (i := 26) (v := ?_) (by simp only [List.getElem?_toArray, List.getElem?_cons_succ, List.getElem?_cons_zero]; rfl) (by kernel_rfl) (by kernel_rfl) (by kernel_rfl) (by exact fun _ _ _ h => h) (Or.inl ⟨by rfl, ?_⟩) hHeld ?_
        rotate_left
        · intro w hSw; (try dsimp only at hSw); go_simp; (try with_reducible rfl)
        try simp only [Act.put, List.setIfInBounds_toArray, List.set_cons_zero, List.set_cons_succ]
        refine wpAnyH_take (i := 27) (v := ?_) (by simp only [List.getElem?_toArray, List.getElem?_cons_succ, List.getElem?_cons_zero]; rfl) (by kernel_rfl) (by kernel_rfl) (by kernel_rfl) (by exact fun _ _ _ h => h) (Or.inl ⟨by rfl, ?_⟩) hHeld ?_
        rotate_left
        · intro w hSw; (try dsimp only at hSw); go_simp; (try with_reducible rfl)
        try simp only [Act.put, List.setIfInBounds_toArray, List.set_cons_zero, List.set_cons_succ]
        refine wpAnyH_take (i := 29) (v := ?_) (by simp only [List.getElem?_toArray, List.getElem?_cons_succ, List.getElem?_cons_zero]; rfl) (by kernel_rfl) (by kernel_rfl) (by kernel_rfl) (by exact fun _ _ _ h => h) (Or.inl ⟨by rfl, ?_⟩) hHeld ?_
        rotate_left
        · intro w hSw; (try dsimp only at hSw); go_simp; (try with_reducible rfl)
        try simp only [Act.put, List.setIfInBounds_toArray, List.set_cons_zero, List.set_cons_succ]
        refine wpAnyH_ready (rs := [28]) (by kernel_rfl) (by simp) ?_
        refine AllReadyH.cons (by simp only [List.getElem?_toArray, List.getElem?_cons_succ, List.getElem?_cons_zero]; rfl) (fun kC hkC => ?_) AllReadyH.nil
        go_simp
        refine (stepnil_any 2 2 4 0 2 3 q1 r2 y0 (by decide) _).mono ?_; rintro r wI ⟨rfl, hkI⟩; have hS := hS.no hkI; have hp := hp.keep hkI (fun f => f); have hb := hb.keep hkI (fun f => f)
        (try go_wp2_with fail)
        refine hkC.out _ _ (⟨hS.cells.1, hS.cells.2, hp.cells.1, hb.cells.1⟩) (fun hHeld => ?_)
        clear hkC kC
        try simp only [Act.put, List.setIfInBounds_toArray, List.set_cons_zero, List.set_cons_succ]
        refine wpAnyH_take (i := 30) (v := ?_) (by simp only [List.getElem?_toArray, List.getElem?_cons_succ, List.getElem?_cons_zero]; rfl) (by kernel_rfl) (by kernel_rfl) (by kernel_rfl) (by exact fun _ _ _ h => h) (Or.inl ⟨by rfl, ?_⟩) hHeld ?_
        rotate_left
        · intro w hSw; (try dsimp only at hSw); go_simp; (try with_reducible rfl)
        try simp only [Act.put, List.setIfInBounds_toArray, List.set_cons_zero, List.set_cons_succ]
        refine wpAnyH_take (i := 31) (v := ?_) (by simp only [List.getElem?_toArray, List.getElem?_cons_succ, List.getElem?_cons_zero]; rfl) (by kernel_rfl) (by kernel_rfl) (by kernel_rfl) (by exact fun _ _ _ h => h) (Or.inl ⟨by rfl, ?_⟩) hHeld ?_
        rotate_left
        · intro w hSw; (try dsimp only at hSw); go_simp; (try with_reducible rfl)
        try simp only [Act.put, List.setIfInBounds_toArray, List.set_cons_zero, List.set_cons_succ]
        refine wpAnyH_take (i := 32) (v := ?_) (by simp only [List.getElem?_toArray, List.getElem?_cons_succ, List.getElem?_cons_zero]; rfl) (by kernel_rfl) (by kernel_rfl) (by kernel_rfl) (by exact fun _ _ _ h => h) (Or.inl ⟨by rfl, ?_⟩) hHeld ?_
        rotate_left
        · intro w hSw; (try dsimp only at hSw); go_simp; (try with_reducible rfl)
        try simp only [Act.put, List.setIfInBounds_toArray, List.set_cons_zero, List.set_cons_succ]
        refine wpAnyH_take (i := 33) (v := ?_) (by simp only [List.getElem?_toArray, List.getElem?_cons_succ, List.getElem?_cons_zero]; rfl) (by kernel_rfl) (by kernel_rfl) (by kernel_rfl) (by exact fun _ _ _ h => h) (Or.inl ⟨by rfl, ?_⟩) hHeld ?_
        rotate_left
        · intro w hSw; (try dsimp only at hSw); go_simp; (try with_reducible rfl)
        try simp only [Act.put, List.setIfInBounds_toArray, List.set_cons_zero, List.set_cons_succ]
        refine wpAnyH_take (i := 34) (v := ?_) (by simp only [List.getElem?_toArray, List.getElem?_cons_succ, List.getElem?_cons_zero]; rfl) (by kernel_rfl) (by kernel_rfl) (by kernel_rfl) (by exact fun _ _ _ h => h) (Or.inl ⟨by rfl, ?_⟩) hHeld ?_
        rotate_left
        · intro w hSw; (try dsimp only at hSw); go_simp; (try with_reducible rfl)
        try simp only [Act.put, List.setIfInBounds_toArray, List.set_cons_zero, List.set_cons_succ]
        refine wpAnyH_take (i := 36) (v := ?_) (by simp only [List.getElem?_toArray, List.getElem?_cons_succ, List.getElem?_cons_zero]; rfl) (by kernel_rfl) (by kernel_rfl) (by kernel_rfl) (by exact fun _ _ _ h => h) (Or.inl ⟨by rfl, ?_⟩) hHeld ?_
        rotate_left
        · intro w hSw; (try dsimp only at hSw); go_simp; (try with_reducible rfl)
        try simp only [Act.put, List.setIfInBounds_toArray, List.set_cons_zero, List.set_cons_succ]
        refine wpAnyH_take (i := 37) (v := ?_) (by simp only [List.getElem?_toArray, List.getElem?_cons_succ, List.getElem?_cons_zero]; rfl) (by kernel_rfl) (by kernel_rfl) (by kernel_rfl) (by exact fun _ _ _ h => h) (Or.inl ⟨by rfl, ?_⟩) hHeld ?_
        rotate_left
        · intro w hSw; (try dsimp only at hSw); go_simp; (try with_reducible rfl)
        try simp only [Act.put, List.setIfInBounds_toArray, List.set_cons_zero, List.set_cons_succ]
        refine wpAnyH_take (i := 38) (v := ?_) (by simp only [List.getElem?_toArray, List.getElem?_cons_succ, List.getElem?_cons_zero]; rfl) (by kernel_rfl) (by kernel_rfl) (by kernel_rfl) (by exact fun _ _ _ h => h) (Or.inl ⟨by rfl, ?_⟩) hHeld ?_
        rotate_left
        · intro w hSw; (try dsimp only at hSw); go_simp; (try with_reducible rfl)
        try simp only [Act.put, List.setIfInBounds_toArray, List.set_cons_zero, List.set_cons_succ]
        refine wpAnyH_ready (rs := [35]) (by kernel_rfl) (by simp) ?_
        refine AllReadyH.cons (by simp only [List.getElem?_toArray, List.getElem?_cons_succ, List.getElem?_cons_zero]; rfl) (fun kC hkC => ?_) AllReadyH.nil
        go_simp
        refine (over_any z0 z1 _).mono ?_; rintro r wJ ⟨rfl, rfl⟩
        (try go_wp2_with fail)
        refine hkC.out _ _ (⟨hS.cells.1, hS.cells.2, hp.cells.1, hb.cells.1⟩) (fun hHeld => ?_)
        clear hkC kC
        try simp only [Act.put, List.setIfInBounds_toArray, List.set_cons_zero, List.set_cons_succ]
        refine wpAnyH_take (i := 39) (v := ?_) (by simp only [List.getElem?_toArray, List.getElem?_cons_succ, List.getElem?_cons_zero]; rfl) (by kernel_rfl) (by kernel_rfl) (by kernel_rfl) (by exact fun _ _ _ h => h) (Or.inl ⟨by rfl, ?_⟩) hHeld ?_
        rotate_left
        · intro w hSw; (try dsimp only at hSw); go_simp; (try with_reducible rfl)
        try simp only [Act.put, List.setIfInBounds_toArray, List.set_cons_zero, List.set_cons_succ]
        refine wpAnyH_take (i := 40) (v := ?_) (by simp only [List.getElem?_toArray, List.getElem?_cons_succ, List.getElem?_cons_zero]; rfl) (by kernel_rfl) (by kernel_rfl) (by kernel_rfl) (by exact fun _ _ _ h => h) (Or.inl ⟨by rfl, ?_⟩) hHeld ?_
        rotate_left
        · intro w hSw; (try dsimp only at hSw); go_simp; (try with_reducible rfl)
        try simp only [Act.put, List.setIfInBounds_toArray, List.set_cons_zero, List.set_cons_succ]
        refine wpAnyH_take (i := 41) (v := ?_) (by simp only [List.getElem?_toArray, List.getElem?_cons_succ, List.getElem?_cons_zero]; rfl) (by kernel_rfl) (by kernel_rfl) (by kernel_rfl) (by exact fun _ _ _ h => h) (Or.inl ⟨by rfl, ?_⟩) hHeld ?_
        rotate_left
        · intro w hSw; (try dsimp only at hSw); go_simp; (try with_reducible rfl)
        try simp only [Act.put, List.setIfInBounds_toArray, List.set_cons_zero, List.set_cons_succ]
        refine wpAnyH_done (by kernel_rfl) ?_ _
        go_wp2_with fail
        go_ret
        exact ⟨by simp, hS.t.s.kp⟩
end Go.Proofs.Ytodaiogefgdcpaa
