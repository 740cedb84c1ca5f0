/- Package vclock, and the document's own bumps: each function with what it computes. -/
import Derived.Test.YtodaiogefgdcpaaBox
namespace Go.Proofs.Ytodaiogefgdcpaa
open Go.RowKit
/-- a bump -/
structure BumpS where
  k : Int
  s : Int
  x : Int
  y : Int
def bumpV (b : BumpS) : Value := .agg #[.int .i64 b.k, .int .i64 b.s, .int .i64 b.x, .int .i64 b.y]
def BumpAt (w : World) (T : TypeId) (b : Nat) (k s x y : Int) : Prop := w.heap[b]? = some (.cells #[.int .i64 k, .int .i64 s, .int .i64 x, .int .i64 y] T (0, 0))
theorem BumpAt.cells {w : World} {T : TypeId} {b : Nat} {k s x y : Int} (h : BumpAt w T b k s x y) :
    (w.cell? ⟨b, 0, none⟩ = some (.int .i64 k) ∧ w.cell? ⟨b, 1, none⟩ = some (.int .i64 s) ∧ w.cell? ⟨b, 2, none⟩ = some (.int .i64 x) ∧ w.cell? ⟨b, 3, none⟩ = some (.int .i64 y)) ∧
    (w.frozen? ⟨b, 0, none⟩ = false ∧ w.frozen? ⟨b, 1, none⟩ = false ∧ w.frozen? ⟨b, 2, none⟩ = false ∧ w.frozen? ⟨b, 3, none⟩ = false ∧ b < w.heap.size) :=
  ⟨⟨by rw [blk_cell h]; rfl, by rw [blk_cell h]; rfl, by rw [blk_cell h]; rfl, by rw [blk_cell h]; rfl⟩, blk_free h 0, blk_free h 1, blk_free h 2, blk_free h 3, blk_lt h⟩
theorem BumpAt.keep {S : Nat → Prop} {w w' : World} {T : TypeId} {b : Nat} {k s x y : Int} (h : BumpAt w T b k s x y) (kk : Keeps S w w') (hb : ¬ S b) : BumpAt w' T b k s x y := kk.blk h hb
theorem bumpAt_new (w : World) (T : TypeId) (k s x y : Int) : BumpAt (w.alloc (.cells #[.int .i64 k, .int .i64 s, .int .i64 x, .int .i64 y] T)) T w.heap.size k s x y := heap_alloc_new _ _
/-- two boxes: a bump, and what is handed back -/
def B2 (T : TypeId) (B : Nat) (k s x y : Int) (w : World) : Prop := BumpAt w T B k s x y ∧ BumpAt w T (B + 1) 0 0 0 0
theorem B2.own {T : TypeId} {B a : Nat} {v : Value} {k s x y : Int} {w w' : World} (h : B2 T B k s x y w) (kk : Keeps (own2m a v) w w') (ha : a < B) (hv : ∀ g, v.ownBlock = some g → g < B) : B2 T B k s x y w' :=
  ⟨h.1.keep kk (not_own (by omega) (fun e => by have := hv _ e; omega)), h.2.keep kk (not_own (by omega) (fun e => by have := hv _ e; omega))⟩
theorem B2.no {T : TypeId} {B : Nat} {k s x y : Int} {w w' : World} (h : B2 T B k s x y w) (kk : Keeps NoS w w') : B2 T B k s x y w' := ⟨h.1.keep kk (fun f => f), h.2.keep kk (fun f => f)⟩
theorem B2.facts {T : TypeId} {B : Nat} {k s x y : Int} {w : World} (h : B2 T B k s x y w) :
    (w.cell? ⟨B, 0, none⟩ = some (.int .i64 k) ∧ w.cell? ⟨B, 1, none⟩ = some (.int .i64 s) ∧ w.cell? ⟨B, 2, none⟩ = some (.int .i64 x) ∧ w.cell? ⟨B, 3, none⟩ = some (.int .i64 y)) ∧ (w.cell? ⟨(B + 1), 0, none⟩ = some (.int .i64 0) ∧ w.cell? ⟨(B + 1), 1, none⟩ = some (.int .i64 0) ∧ w.cell? ⟨(B + 1), 2, none⟩ = some (.int .i64 0) ∧ w.cell? ⟨(B + 1), 3, none⟩ = some (.int .i64 0)) ∧
    (w.frozen? ⟨B, 0, none⟩ = false ∧ w.frozen? ⟨B, 1, none⟩ = false ∧ w.frozen? ⟨B, 2, none⟩ = false ∧ w.frozen? ⟨B, 3, none⟩ = false) ∧
    (w.frozen? ⟨B + 1, 0, none⟩ = false ∧ w.frozen? ⟨B + 1, 1, none⟩ = false ∧ w.frozen? ⟨B + 1, 2, none⟩ = false ∧ w.frozen? ⟨B + 1, 3, none⟩ = false) ∧ B < w.heap.size ∧ B + 1 < w.heap.size := by
  obtain ⟨⟨c0, c1, c2, c3⟩, f0, f1, f2, f3, fz⟩ := h.1.cells
  obtain ⟨⟨r0, r1, r2, r3⟩, g0, g1, g2, g3, gz⟩ := h.2.cells
  exact ⟨⟨c0, c1, c2, c3⟩, ⟨r0, r1, r2, r3⟩, ⟨f0, f1, f2, f3⟩, ⟨g0, g1, g2, g3⟩, fz, gz⟩
theorem b2_new (w : World) (T : TypeId) (k s x y : Int) : B2 T w.heap.size k s x y ((w.alloc (.cells #[.int .i64 k, .int .i64 s, .int .i64 x, .int .i64 y] T)).alloc (.cells #[.int .i64 0, .int .i64 0, .int .i64 0, .int .i64 0] T)) := by
  refine ⟨(bumpAt_new w T k s x y).keep ((Keeps.refl NoS _).alloc _) (fun f => f), ?_⟩
  have := bumpAt_new (w.alloc (.cells #[.int .i64 k, .int .i64 s, .int .i64 x, .int .i64 y] T)) T 0 0 0 0
  simpa using this
/-- look: the word that is to be bumped -/
def lookB (M : MemS) (n : Nat) (b : BumpS) : MemS × BumpS := (M.load n, if b.k = 2 ∨ M.word n % 2 = 0 then ⟨b.k, 1, M.word n, b.y⟩ else b)
def byB (b : BumpS) : Int := if b.k = 3 then 2 else 1
/-- swap: it is bumped if it is still what was seen -/
def swapB (M : MemS) (n : Nat) (b : BumpS) : MemS × BumpS :=
  (M.swap n b.x (wrap64 (b.x + byB b)), if M.word n = b.x then ⟨b.k, 9, b.x, wrap64 (b.x + byB b)⟩ else if b.k = 2 then ⟨b.k, 9, b.x, M.word n⟩ else ⟨b.k, 0, 0, b.y⟩)
def okB (m : MapS) (n : Nat) (s : Int) : Bool := mayB m && decide (sizeP m ≤ (n : Int)) && decide (0 ≤ s) && decide (s ≤ 1)
def stepK (M : MemS) (b : BumpS) : MemS × BumpS :=
  if b.k = 1 then (if b.s = 0 then (M.add 0 1, ⟨1, 9, b.x, wrap64 (M.word 0 + 1)⟩) else (M, b))
  else if b.k = 3 then (if b.s = 0 then lookB M 1 b else swapB M 1 b)
  else if b.k = 2 then (if b.s = 0 then lookB M 0 b else swapB M 0 b)
  else (M, b)
def stepB (m : MapS) (M : MemS) (b : BumpS) : MemS × BumpS := if okB m M.L.length b.s then stepK M b else (M, b)
def startB (e c : Int) : BumpS := if e = 2 then ⟨3, 0, 0, 0⟩ else if e = 1 ∧ c = 1 then ⟨1, 0, 0, 0⟩ else if e = 1 ∧ c = 2 then ⟨2, 0, 0, 0⟩ else ⟨0, 0, 0, 0⟩
theorem ok_len {m : MapS} {n : Nat} {s : Int} (h : okB m n s = true) : 2 ≤ n ∧ clockP m = 0 ∧ seqP m = 1 ∧ (s = 0 ∨ s = 1) := by
  simp only [okB, Bool.and_eq_true, decide_eq_true_eq] at h
  obtain ⟨⟨⟨h1, h2⟩, h3⟩, h4⟩ := h
  have hM := may_of h1
  have hb := starts_bd hM
  have hs : sizeP m = p7 m := by simp [sizeP, h1]
  have e1 : p1 m = 2 + m.s := rfl
  refine ⟨by omega, by simp [clockP, h1], by simp [seqP, h1], by omega⟩

set_option maxHeartbeats 4000000 in
set_option maxRecDepth 100000 in
theorem look_any (k s x y : Int) (n a : Nat) (v : Value) (M : MemS) (w : World) (hA : MemAt w a v M) (hn : n < M.L.length) : Calls Try.prog 75 #[.pointer (some ⟨a, 0, none⟩), .int .i64 n, .agg #[.int .i64 k, .int .i64 s, .int .i64 x, .int .i64 y]] w fun e w' => e = .returned (bumpV (lookB M n ⟨k, s, x, y⟩).2) ∧ MemAt w' a v (lookB M n ⟨k, s, x, y⟩).1 ∧ Keeps (own2m a v) w w' := by
  have hbx := b2_new w 65 k s x y
  have hk : Keeps NoS w ((w.alloc (.cells #[.int .i64 k, .int .i64 s, .int .i64 x, .int .i64 y] 65)).alloc (.cells #[.int .i64 0, .int .i64 0, .int .i64 0, .int .i64 0] 65)) := ((Keeps.refl NoS w).alloc _).alloc _
  have ha := blk_lt hA.hd
  have hv : ∀ g, v.ownBlock = some g → g < w.heap.size := fun g hg => hA.own_lt hg
  have hA2 := hA.keep hk (fun f => f) (fun _ _ f => f)
  obtain ⟨B, hB⟩ : ∃ B, w.heap.size = B := ⟨_, rfl⟩
  rw [hB] at hbx hv ha
  have HB := Lib.hid hB; have HA2 := Lib.hid hA2; have HK := Lib.hid hk; have HV := Lib.hid hv; have HBX := Lib.hid hbx
  unfold lookB
  dsimp only
  have a1 := and_1 (M.word n)
  obtain ⟨wd, hwd⟩ : ∃ wd, M.word n = wd := ⟨_, rfl⟩
  rw [hwd] at a1
  rw [hwd]
  have HWD := Lib.hid hwd
  clear hbx hk hv hA2 hA hB hwd
  by_cases h2 : k = 2
  · subst h2
    rw [if_pos (Or.inl rfl)]
    unfold bumpV
    dsimp only
    go_enter Try.func75, Try.ntmps75
    go_wp2_with fail
    refine (load_ok a v M n _ HA2.out hn).mono ?_; rw [HWD.out]; rintro e w1 ⟨rfl, hm1, hk1⟩; have hk1' := hk1.mono (T := own2m a v) (fun _ e => Or.inl e); have hb3 := HBX.out.own hk1' ha HV.out; obtain ⟨⟨c0, c1, c2, c3⟩, ⟨r0, r1, r2, r3⟩, ⟨f0, f1, f2, f3⟩, ⟨g0, g1, g2, g3⟩, z1, z2⟩ := hb3.facts; clear hb3
    rw [HB.out]
    go_wp2_with fail
    refine bodyPost_ret (v := .agg #[.int .i64 2, .int .i64 1, .int .i64 wd, .int .i64 y]) (by simp [results, Try.results75, go_sem, *]) rfl ⟨rfl, ?_, ?_⟩
    · repeat (first | (with_reducible exact hm1) | refine MemT.set (B := B) ?_ ha HV.out _ (by show B ≤ _; dsimp only; omega) _)
    · repeat (first | (with_reducible exact (HK.out.no.trans hk1')) | refine kset HB.out ?_ _ (by show B ≤ _; dsimp only; omega) _)
  · by_cases he : wd % 2 = 0
    · rw [if_pos (Or.inr he)]
      unfold bumpV
      dsimp only
      go_enter Try.func75, Try.ntmps75
      go_wp2_with fail
      refine (load_ok a v M n _ HA2.out hn).mono ?_; rw [HWD.out]; rintro e w1 ⟨rfl, hm1, hk1⟩; have hk1' := hk1.mono (T := own2m a v) (fun _ e => Or.inl e); have hb3 := HBX.out.own hk1' ha HV.out; obtain ⟨⟨c0, c1, c2, c3⟩, ⟨r0, r1, r2, r3⟩, ⟨f0, f1, f2, f3⟩, ⟨g0, g1, g2, g3⟩, z1, z2⟩ := hb3.facts; clear hb3
      rw [HB.out]
      go_wp2_with fail
      refine bodyPost_ret (v := .agg #[.int .i64 k, .int .i64 1, .int .i64 wd, .int .i64 y]) (by simp [results, Try.results75, go_sem, *]) rfl ⟨rfl, ?_, ?_⟩
      · repeat (first | (with_reducible exact hm1) | refine MemT.set (B := B) ?_ ha HV.out _ (by show B ≤ _; dsimp only; omega) _)
      · repeat (first | (with_reducible exact (HK.out.no.trans hk1')) | refine kset HB.out ?_ _ (by show B ≤ _; dsimp only; omega) _)
    · rw [if_neg (fun h => h.elim h2 he)]
      have k2' : (k == 2) = false := beq_eq_false_iff_ne.2 h2
      have he' : (wd % 2 == 0) = false := beq_eq_false_iff_ne.2 he
      unfold bumpV
      dsimp only
      go_enter Try.func75, Try.ntmps75
      go_wp2_with fail
      refine (load_ok a v M n _ HA2.out hn).mono ?_; rw [HWD.out]; rintro e w1 ⟨rfl, hm1, hk1⟩; have hk1' := hk1.mono (T := own2m a v) (fun _ e => Or.inl e); have hb3 := HBX.out.own hk1' ha HV.out; obtain ⟨⟨c0, c1, c2, c3⟩, ⟨r0, r1, r2, r3⟩, ⟨f0, f1, f2, f3⟩, ⟨g0, g1, g2, g3⟩, z1, z2⟩ := hb3.facts; clear hb3
      rw [HB.out]
      go_wp2_with fail
      refine bodyPost_ret (v := .agg #[.int .i64 k, .int .i64 s, .int .i64 x, .int .i64 y]) (by simp [results, Try.results75, go_sem, *]) rfl ⟨rfl, ?_, ?_⟩
      · repeat (first | (with_reducible exact hm1) | refine MemT.set (B := B) ?_ ha HV.out _ (by show B ≤ _; dsimp only; omega) _)
      · repeat (first | (with_reducible exact (HK.out.no.trans hk1')) | refine kset HB.out ?_ _ (by show B ≤ _; dsimp only; omega) _)
set_option maxHeartbeats 4000000 in
set_option maxRecDepth 100000 in
theorem swap_any (k s x y : Int) (n a : Nat) (v : Value) (M : MemS) (w : World) (hA : MemAt w a v M) (hn : n < M.L.length) : Calls Try.prog 76 #[.pointer (some ⟨a, 0, none⟩), .int .i64 n, .agg #[.int .i64 k, .int .i64 s, .int .i64 x, .int .i64 y]] w fun e w' => e = .returned (bumpV (swapB M n ⟨k, s, x, y⟩).2) ∧ MemAt w' a v (swapB M n ⟨k, s, x, y⟩).1 ∧ Keeps (own2m a v) w w' := by
  have hbx := b2_new w 65 k s x y
  have hk : Keeps NoS w ((w.alloc (.cells #[.int .i64 k, .int .i64 s, .int .i64 x, .int .i64 y] 65)).alloc (.cells #[.int .i64 0, .int .i64 0, .int .i64 0, .int .i64 0] 65)) := ((Keeps.refl NoS w).alloc _).alloc _
  have ha := blk_lt hA.hd
  have hv : ∀ g, v.ownBlock = some g → g < w.heap.size := fun g hg => hA.own_lt hg
  have hA2 := hA.keep hk (fun f => f) (fun _ _ f => f)
  obtain ⟨B, hB⟩ : ∃ B, w.heap.size = B := ⟨_, rfl⟩
  rw [hB] at hbx hv ha
  have HB := Lib.hid hB; have HA2 := Lib.hid hA2; have HK := Lib.hid hk; have HV := Lib.hid hv; have HBX := Lib.hid hbx
  unfold swapB
  dsimp only
  have a1 := and_1 (M.word n)
  obtain ⟨wd, hwd⟩ : ∃ wd, M.word n = wd := ⟨_, rfl⟩
  rw [hwd] at a1
  rw [hwd]
  have HWD := Lib.hid hwd
  clear hbx hk hv hA2 hA hB hwd
  unfold byB
  dsimp only
  by_cases hq : wd = x
  · rw [if_pos hq]
    subst hq
    by_cases h3 : k = 3
    · subst h3
      rw [if_pos rfl]
      unfold bumpV
      dsimp only
      obtain ⟨nw, hnw⟩ : ∃ nw, wrap64 (wd + 2) = nw := ⟨_, rfl⟩
      have hnw' : IntKind.i64.wrap (wd + 2) = nw := (IntWalk.i64_left _).trans hnw
      rw [hnw]
      clear hnw
      go_enter Try.func76, Try.ntmps76
      go_wp2_with fail
      refine (swap_yes a v M n wd nw _ HA2.out hn (by rw [HWD.out]; simp)).mono ?_; rw [HWD.out]; rintro e w1 ⟨rfl, hm1, hk1⟩; have hb3 := HBX.out.own hk1 ha HV.out; obtain ⟨⟨c0, c1, c2, c3⟩, ⟨r0, r1, r2, r3⟩, ⟨f0, f1, f2, f3⟩, ⟨g0, g1, g2, g3⟩, z1, z2⟩ := hb3.facts; clear hb3
      rw [HB.out]
      go_wp2_with fail
      refine bodyPost_ret (v := .agg #[.int .i64 3, .int .i64 9, .int .i64 wd, .int .i64 nw]) (by simp [results, Try.results76, go_sem, *]) rfl ⟨rfl, ?_, ?_⟩
      · repeat (first | (with_reducible exact hm1) | refine MemT.set (B := B) ?_ ha HV.out _ (by show B ≤ _; dsimp only; omega) _)
      · repeat (first | (with_reducible exact (HK.out.no.trans hk1)) | refine kset HB.out ?_ _ (by show B ≤ _; dsimp only; omega) _)
    · rw [if_neg h3]
      unfold bumpV
      dsimp only
      obtain ⟨nw, hnw⟩ : ∃ nw, wrap64 (wd + 1) = nw := ⟨_, rfl⟩
      have hnw' : IntKind.i64.wrap (wd + 1) = nw := (IntWalk.i64_left _).trans hnw
      rw [hnw]
      clear hnw
      go_enter Try.func76, Try.ntmps76
      go_wp2_with fail
      refine (swap_yes a v M n wd nw _ HA2.out hn (by rw [HWD.out]; simp)).mono ?_; rw [HWD.out]; rintro e w1 ⟨rfl, hm1, hk1⟩; have hb3 := HBX.out.own hk1 ha HV.out; obtain ⟨⟨c0, c1, c2, c3⟩, ⟨r0, r1, r2, r3⟩, ⟨f0, f1, f2, f3⟩, ⟨g0, g1, g2, g3⟩, z1, z2⟩ := hb3.facts; clear hb3
      rw [HB.out]
      go_wp2_with fail
      refine bodyPost_ret (v := .agg #[.int .i64 k, .int .i64 9, .int .i64 wd, .int .i64 nw]) (by simp [results, Try.results76, go_sem, *]) rfl ⟨rfl, ?_, ?_⟩
      · repeat (first | (with_reducible exact hm1) | refine MemT.set (B := B) ?_ ha HV.out _ (by show B ≤ _; dsimp only; omega) _)
      · repeat (first | (with_reducible exact (HK.out.no.trans hk1)) | refine kset HB.out ?_ _ (by show B ≤ _; dsimp only; omega) _)
  · rw [if_neg hq]
    by_cases h3 : k = 3
    · subst h3
      rw [if_pos rfl, if_neg (by decide)]
      unfold bumpV
      dsimp only
      obtain ⟨nw, hnw⟩ : ∃ nw, wrap64 (x + 2) = nw := ⟨_, rfl⟩
      have hnw' : IntKind.i64.wrap (x + 2) = nw := (IntWalk.i64_left _).trans hnw
      rw [hnw]
      clear hnw
      go_enter Try.func76, Try.ntmps76
      go_wp2_with fail
      refine (swap_no a v M n x nw _ HA2.out hn (by rw [HWD.out]; simpa using hq)).mono ?_; rw [HWD.out]; rintro e w1 ⟨rfl, hm1, hk1⟩; have hb3 := HBX.out.own hk1 ha HV.out; obtain ⟨⟨c0, c1, c2, c3⟩, ⟨r0, r1, r2, r3⟩, ⟨f0, f1, f2, f3⟩, ⟨g0, g1, g2, g3⟩, z1, z2⟩ := hb3.facts; clear hb3
      rw [HB.out]
      go_wp2_with fail
      refine bodyPost_ret (v := .agg #[.int .i64 3, .int .i64 0, .int .i64 0, .int .i64 y]) (by simp [results, Try.results76, go_sem, *]) rfl ⟨rfl, ?_, ?_⟩
      · repeat (first | (with_reducible exact hm1) | refine MemT.set (B := B) ?_ ha HV.out _ (by show B ≤ _; dsimp only; omega) _)
      · repeat (first | (with_reducible exact (HK.out.no.trans hk1)) | refine kset HB.out ?_ _ (by show B ≤ _; dsimp only; omega) _)
    · rw [if_neg h3]
      by_cases h2 : k = 2
      · subst h2
        rw [if_pos rfl]
        unfold bumpV
        dsimp only
        obtain ⟨nw, hnw⟩ : ∃ nw, wrap64 (x + 1) = nw := ⟨_, rfl⟩
        have hnw' : IntKind.i64.wrap (x + 1) = nw := (IntWalk.i64_left _).trans hnw
        rw [hnw]
        clear hnw
        go_enter Try.func76, Try.ntmps76
        go_wp2_with fail
        refine (swap_no a v M n x nw _ HA2.out hn (by rw [HWD.out]; simpa using hq)).mono ?_; rw [HWD.out]; rintro e w1 ⟨rfl, hm1, hk1⟩; have hb3 := HBX.out.own hk1 ha HV.out; obtain ⟨⟨c0, c1, c2, c3⟩, ⟨r0, r1, r2, r3⟩, ⟨f0, f1, f2, f3⟩, ⟨g0, g1, g2, g3⟩, z1, z2⟩ := hb3.facts; clear hb3
        rw [HB.out]
        go_wp2_with fail
        refine bodyPost_ret (v := .agg #[.int .i64 2, .int .i64 9, .int .i64 x, .int .i64 wd]) (by simp [results, Try.results76, go_sem, *]) rfl ⟨rfl, ?_, ?_⟩
        · repeat (first | (with_reducible exact hm1) | refine MemT.set (B := B) ?_ ha HV.out _ (by show B ≤ _; dsimp only; omega) _)
        · repeat (first | (with_reducible exact (HK.out.no.trans hk1)) | refine kset HB.out ?_ _ (by show B ≤ _; dsimp only; omega) _)
      · rw [if_neg h2]
        unfold bumpV
        dsimp only
        obtain ⟨nw, hnw⟩ : ∃ nw, wrap64 (x + 1) = nw := ⟨_, rfl⟩
        have hnw' : IntKind.i64.wrap (x + 1) = nw := (IntWalk.i64_left _).trans hnw
        rw [hnw]
        clear hnw
        go_enter Try.func76, Try.ntmps76
        go_wp2_with fail
        refine (swap_no a v M n x nw _ HA2.out hn (by rw [HWD.out]; simpa using hq)).mono ?_; rw [HWD.out]; rintro e w1 ⟨rfl, hm1, hk1⟩; have hb3 := HBX.out.own hk1 ha HV.out; obtain ⟨⟨c0, c1, c2, c3⟩, ⟨r0, r1, r2, r3⟩, ⟨f0, f1, f2, f3⟩, ⟨g0, g1, g2, g3⟩, z1, z2⟩ := hb3.facts; clear hb3
        rw [HB.out]
        go_wp2_with fail
        refine bodyPost_ret (v := .agg #[.int .i64 k, .int .i64 0, .int .i64 0, .int .i64 y]) (by simp [results, Try.results76, go_sem, *]) rfl ⟨rfl, ?_, ?_⟩
        · repeat (first | (with_reducible exact hm1) | refine MemT.set (B := B) ?_ ha HV.out _ (by show B ≤ _; dsimp only; omega) _)
        · repeat (first | (with_reducible exact (HK.out.no.trans hk1)) | refine kset HB.out ?_ _ (by show B ≤ _; dsimp only; omega) _)
end Go.Proofs.Ytodaiogefgdcpaa
