/- The document's example of chapter 9. -/
import Derived.Test.YtjchcmomppfilaaMcsAll
import Derived.Test.YtjchcmomppfilaaDag
namespace Go.Proofs.Ytjchcmomppfilaa
open Go.RowKit
theorem m9_size : sizeP ⟨2, 2, 4, 0, 2⟩ = 48 := by kernel_rfl
/-- thread 1's hand of lock 1, behind k steps -/
def k9 : Nat → MemS × HandS
  | 0 => (M0 48, ⟨1, 1, 0, false, 0⟩)
  | k + 1 => mTakeI (k9 k).1 (k9 k).2
theorem k9_hand : ∀ k, k < 5 → (k9 k).2 = ⟨1, 1, if k = 4 then 9 else k, false, 0⟩
  | 0, _ => by kernel_rfl
  | 1, _ => by kernel_rfl
  | 2, _ => by kernel_rfl
  | 3, _ => by kernel_rfl
  | 4, _ => by kernel_rfl
  | k + 5, h => absurd h (by omega)
theorem k9_len : ∀ k, (k9 k).1.L.length = 48
  | 0 => by simp [k9, M0, MemS.new]
  | k + 1 => (mTakeI_len _ _).trans (k9_len k)
theorem k9_drop : ∃ M5 M6 : MemS, mDropI (k9 4).1 ⟨1, 1, 9, false, 0⟩ = (M5, ⟨1, 1, 7, false, 0⟩) ∧ mDropI M5 ⟨1, 1, 7, false, 0⟩ = (M6, ⟨1, 1, 0, false, 0⟩) ∧ M6.st = 6 :=
  ⟨(mDropI (k9 4).1 ⟨1, 1, 9, false, 0⟩).1, (mDropI (mDropI (k9 4).1 ⟨1, 1, 9, false, 0⟩).1 ⟨1, 1, 7, false, 0⟩).1, by kernel_rfl, by kernel_rfl, by kernel_rfl⟩
theorem id911 : idP ⟨2, 2, 4, 0, 2⟩ 1 1 = 4 := by kernel_rfl
/-- what told has at hand -/
structure T9 (w wr : World) (B H a c : Nat) (v u : Value) (M : MemS) (s x : Int) : Prop where
  tw : TwoR w wr a c v u M (M0 48)
  mp : MapAt wr B 2 2 4 0 2
  hd : HandAt wr 37 H 1 1 s false x
  aB : ¬ own2m a v B
  aH : ¬ own2m a v H
  cH : ¬ own2m c u H
  hB : w.heap.size ≤ B
  hH : w.heap.size ≤ H
  ne : B ≠ H
section
variable {w wr w' : World} {B H a c g : Nat} {v u : Value} {M M' : MemS} {s x s' x' : Int}
theorem T9.no (h : T9 w wr B H a c v u M s x) (k : Keeps NoS wr w') : T9 w w' B H a c v u M s x :=
  ⟨h.tw.keep k, h.mp.keep k (fun f => f), h.hd.keep k (fun f => f), h.aB, h.aH, h.cH, h.hB, h.hH, h.ne⟩
theorem T9.turn (h : T9 w wr B H a c v u M s x) (hm : MemAt w' a v M') (k : Keeps (own2m a v) wr w') : T9 w w' B H a c v u M' s x :=
  ⟨h.tw.turnS hm k, h.mp.keep k h.aB, h.hd.keep k h.aH, h.aB, h.aH, h.cH, h.hB, h.hH, h.ne⟩
theorem T9.cells (h : T9 w wr B H a c v u M s x) : (wr.cell? ⟨B, 0, none⟩ = some (.int .i64 2) ∧ wr.cell? ⟨B, 1, none⟩ = some (.int .i64 2) ∧ wr.cell? ⟨B, 2, none⟩ = some (.int .i64 4) ∧ wr.cell? ⟨B, 3, none⟩ = some (.int .i64 0) ∧ wr.cell? ⟨B, 4, none⟩ = some (.int .i64 2)) ∧ (wr.cell? ⟨H, 0, none⟩ = some (.int .i64 1) ∧ wr.cell? ⟨H, 1, none⟩ = some (.int .i64 1) ∧ wr.cell? ⟨H, 2, none⟩ = some (.int .i64 s) ∧ wr.cell? ⟨H, 3, none⟩ = some (.bool false) ∧ wr.cell? ⟨H, 4, none⟩ = some (.int .i64 x)) := by
  obtain ⟨c0, c1, c2, c3, c4, _⟩ := h.hd.cells
  exact ⟨h.mp, c0, c1, c2, c3, c4⟩
end
theorem handAt_set {w : World} {T : TypeId} {H : Nat} {t0 l0 s0 : Int} {r0 : Bool} {x0 : Int} (h : HandAt w T H t0 l0 s0 r0 x0) (t l s : Int) (r : Bool) (x : Int) : HandAt (((((w.setCell ⟨H, 0, none⟩ (.int .i64 t)).setCell ⟨H, 1, none⟩ (.int .i64 l)).setCell ⟨H, 2, none⟩ (.int .i64 s)).setCell ⟨H, 3, none⟩ (.bool r)).setCell ⟨H, 4, none⟩ (.int .i64 x)) T H t l s r x :=
  blk_set (blk_set (blk_set (blk_set (blk_set h 0 _) 1 _) 2 _) 3 _) 4 _
theorem keeps_hand (w : World) (g : Nat) (t l s : Int) (r : Bool) (x : Int) : Keeps (just g) w (((((w.setCell ⟨g, 0, none⟩ (.int .i64 t)).setCell ⟨g, 1, none⟩ (.int .i64 l)).setCell ⟨g, 2, none⟩ (.int .i64 s)).setCell ⟨g, 3, none⟩ (.bool r)).setCell ⟨g, 4, none⟩ (.int .i64 x)) :=
  (((((Keeps.refl (just g) w).setCell (p := ⟨g, 0, none⟩) (fun _ => rfl) _).setCell (p := ⟨g, 1, none⟩) (fun _ => rfl) _).setCell (p := ⟨g, 2, none⟩) (fun _ => rfl) _).setCell (p := ⟨g, 3, none⟩) (fun _ => rfl) _).setCell (p := ⟨g, 4, none⟩) (fun _ => rfl) _
theorem TwoT.far {T U : TypeId} {w wr w' : World} {a c g : Nat} {v u : Value} {M N : MemS} (h : TwoT T U w wr a c v u M N) (na : ¬ own2m a v g) (nc : ¬ own2m c u g) (hg : w.heap.size ≤ g) (k : Keeps (just g) wr w') : TwoT T U w w' a c v u M N :=
  ⟨⟨h.s.m.keep k (fun e => na (.inl (by have e' : a = g := e; exact e'.symm))) (fun i hi e => na (.inr (by have e' : i = g := e; rw [← e']; exact hi))), h.s.na, h.s.nv, h.s.kp.trans' k (fun i hi e => by have e' : i = g := e; omega)⟩,
    ⟨h.r.m.keep k (fun e => nc (.inl (by have e' : c = g := e; exact e'.symm))) (fun i hi e => nc (.inr (by have e' : i = g := e; rw [← e']; exact hi))), h.r.na, h.r.nv, h.s.kp.trans' k (fun i hi e => by have e' : i = g := e; omega)⟩, h.ac, h.vc, h.ua, h.vu⟩
set_option maxHeartbeats 20000000 in
set_option maxRecDepth 100000 in
theorem told9_any (w : World) : Calls Try.prog 15 #[] w fun e w' => e = .returned (.bool true) ∧ Keeps NoS w w' := by
  obtain ⟨M5, M6, e5, e6, e7⟩ := k9_drop
  have E5 := Lib.hid e5; have E6 := Lib.hid e6; have E7 := Lib.hid e7
  clear e5 e6 e7
  go_enter Try.func15, Try.ntmps15
  go_wp2_with (go_at_call 16; refine (map8_any _).mono ?_; rintro e w1 ⟨rfl, hk1⟩)
  have hB := mapAt_new w1 2 2 4 0 2 24
  have hk1' := hk1.alloc (.cells #[.int .i64 2, .int .i64 2, .int .i64 4, .int .i64 0, .int .i64 2] 24)
  obtain ⟨B, hBe⟩ : ∃ B, w1.heap.size = B := ⟨_, rfl⟩
  have hBw : w.heap.size ≤ B := by rw [← hBe]; exact hk1.size
  have hBl : B < (w1.alloc (.cells #[.int .i64 2, .int .i64 2, .int .i64 4, .int .i64 0, .int .i64 2] 24)).heap.size := by rw [← hBe]; simp
  rw [hBe] at hB
  rw [hBe]
  generalize w1.alloc (.cells #[.int .i64 2, .int .i64 2, .int .i64 4, .int .i64 0, .int .i64 2] 24) = W at *
  refine (both_any 2 2 4 0 2 48 m9_size (by decide) (by decide) W).mono ?_
  rintro e w2 ⟨a, c, v, u, rfl, hT⟩
  have hB2 := hB.keep hT.s.kp (fun f => f)
  have haB : ¬ own2m a v B := not_own (fun e => by have := hT.s.na; omega) (fun e => by have := hT.s.nv B e; omega)
  have hT2 : TwoR w w2 a c v u (M0 48) (M0 48) := ⟨⟨hT.s.m, Nat.le_trans hk1'.size hT.s.na, fun g e => Nat.le_trans hk1'.size (hT.s.nv g e), hk1'.trans hT.s.kp⟩, ⟨hT.r.m, Nat.le_trans hk1'.size hT.r.na, fun g e => Nat.le_trans hk1'.size (hT.r.nv g e), hk1'.trans hT.r.kp⟩, hT.ac, hT.vc, hT.ua, hT.vu⟩
  have hH := handAt_new w2 37 1 1 0 false 0
  have haH : ¬ own2m a v w2.heap.size := not_own (fun e => by have := blk_lt hT.s.m.hd; omega) (fun e => by have := hT.s.m.own_lt e; omega)
  have hcH : ¬ own2m c u w2.heap.size := not_own (fun e => by have := blk_lt hT.r.m.hd; omega) (fun e => by have := hT.r.m.own_lt e; omega)
  have hk3 := (Keeps.refl NoS w2).alloc (.cells #[.int .i64 1, .int .i64 1, .int .i64 0, .bool false, .int .i64 0] 37)
  have h9 : T9 w (w2.alloc (.cells #[.int .i64 1, .int .i64 1, .int .i64 0, .bool false, .int .i64 0] 37)) B w2.heap.size a c v u (M0 48) 0 0 :=
    ⟨hT2.keep hk3, hB2.keep hk3 (fun f => f), hH, haB, haH, hcH, hBw, hT2.s.kp.size, by have := hT.s.kp.size; omega⟩
  obtain ⟨H, hHe⟩ : ∃ H, w2.heap.size = H := ⟨_, rfl⟩
  rw [hHe] at h9
  have H9 := Lib.hid h9; have HHE := Lib.hid hHe
  clear hH haH hcH hk3 hT hB hB2 haB hT2 hBl hBw hk1' hk1 hBe hHe h9
  go_wp2_with fail
  rw [HHE.out]
  generalize w2.alloc (.cells #[.int .i64 1, .int .i64 1, .int .i64 0, .bool false, .int .i64 0] 37) = w3 at *
  clear HHE
  go_loopw [5] (fun iv wq => ∃ k : Nat, k ≤ 4 ∧ iv = .int .i64 k ∧ T9 w wq B H a c v u (k9 k).1 (if k = 4 then 9 else k) 0) (fun iv _ => 4 - (intOf iv).toNat)
  case atStart => exact ⟨0, by omega, rfl, H9.out⟩
  case round =>
    obtain ⟨k, hk, rfl, hS⟩ := hrel
    have HS := Lib.hid hS
    by_cases hk4 : k < 4
    · have k0 : (0 : Int) ≤ (k : Int) := by omega
      have k1 : (k : Int) < 4 := by omega
      obtain ⟨M, hM⟩ : ∃ M, (k9 k).1 = M := ⟨_, rfl⟩
      obtain ⟨M', hM'⟩ : ∃ M, (k9 (k + 1)).1 = M := ⟨_, rfl⟩
      obtain ⟨s', hs'⟩ : ∃ s : Int, (if k + 1 = 4 then 9 else ((k + 1 : Nat) : Int)) = s := ⟨_, rfl⟩
      have hst : mTakeI M ⟨1, 1, k, false, 0⟩ = (M', ⟨1, 1, s', false, 0⟩) := by
        have h1 := k9_hand k (by omega)
        have h2 := k9_hand (k + 1) (by omega)
        rw [if_neg (by omega)] at h1
        rw [hs'] at h2
        rw [← hM, ← h1, ← hM', ← h2]; rfl
      have hml : M.L.length = 48 := by rw [← hM]; exact k9_len k
      rw [hM, if_neg (show ¬ k = 4 by omega)] at hS
      have HST := Lib.hid hst; have HML := Lib.hid hml; have HM' := Lib.hid hM'; have HS2 := Lib.hid hS; have HSN := Lib.hid hs'
      obtain ⟨⟨m0, m1, m2, m3, m4⟩, c0, c1, c2, c3, c4⟩ := hS.cells
      clear hst hml hM hM' hS HS hs' H9
      go_wp2_with fail
      refine (take8_any 1 1 k false 0 a v M _ HS2.out.tw.s.m HML.out).mono ?_
      rw [HST.out]
      unfold handV
      dsimp only
      rintro e w5 ⟨rfl, hm, hk5⟩
      have hS5 := HS2.out.turn hm hk5
      have HS5 := Lib.hid hS5
      clear m0 m1 m2 m3 m4 c0 c1 c2 c3 c4
      obtain ⟨c0, c1, c2, c3, c4, f0, f1, f2, f3, f4, fz⟩ := hS5.hd.cells
      clear hS5 hm hk5 HS2
      have hS6 : T9 w (((((w5.setCell ⟨H, 0, none⟩ (.int .i64 1)).setCell ⟨H, 1, none⟩ (.int .i64 1)).setCell ⟨H, 2, none⟩ (.int .i64 s')).setCell ⟨H, 3, none⟩ (.bool false)).setCell ⟨H, 4, none⟩ (.int .i64 0)) B H a c v u M' s' 0 := by
        have h := HS5.out
        have kk := keeps_hand w5 H 1 1 s' false 0
        exact ⟨h.tw.far h.aH h.cH h.hH kk, h.mp.keep kk h.ne, handAt_set h.hd 1 1 s' false 0, h.aB, h.aH, h.cH, h.hB, h.hH, h.ne⟩
      have HS6 := Lib.hid hS6
      clear hS6 HS5
      go_wp2_with fail
      go_roundw
      case rel => exact ⟨k + 1, by omega, by go_num, by rw [HM'.out, HSN.out]; exact HS6.out⟩
      case measure => simp [intOf]; omega
    · obtain rfl : k = 4 := by omega
      rw [if_pos rfl] at hS
      obtain ⟨M4, hM4⟩ : ∃ M, (k9 4).1 = M := ⟨_, rfl⟩
      have hl4 : M4.L.length = 48 := by rw [← hM4]; exact k9_len 4
      rw [hM4] at hS E5
      have hl5 : M5.L.length = 48 := by have h := mDropI_len M4 ⟨1, 1, 9, false, 0⟩; rw [E5.out] at h; exact h.trans hl4
      have HS2 := Lib.hid hS; have HL4 := Lib.hid hl4; have HL5 := Lib.hid hl5
      clear hM4 hl4 hl5 hS HS H9
      go_wp2_with fail
      have hS := HS2.out.no ((Keeps.refl NoS _).drew)
      refine wp_region_held_drew (S := (fun w' => (w'.cell? ⟨B, 0, none⟩ = some (.int .i64 2) ∧ w'.cell? ⟨B, 1, none⟩ = some (.int .i64 2) ∧ w'.cell? ⟨B, 2, none⟩ = some (.int .i64 4) ∧ w'.cell? ⟨B, 3, none⟩ = some (.int .i64 0) ∧ w'.cell? ⟨B, 4, none⟩ = some (.int .i64 2)) ∧ (w'.cell? ⟨H, 0, none⟩ = some (.int .i64 1) ∧ w'.cell? ⟨H, 1, none⟩ = some (.int .i64 1) ∧ w'.cell? ⟨H, 2, none⟩ = some (.int .i64 9) ∧ w'.cell? ⟨H, 3, none⟩ = some (.bool false) ∧ w'.cell? ⟨H, 4, none⟩ = some (.int .i64 0)))) (by kernel_rfl) (hS.cells) (fun hHeld => ?_)
      generalize wr.drew = wq at *
      apply wpAnyH_dag1 (R := (fun (g1 : Nat) (wq : World) => (T9 w wq B H a c v u M6 9 0) ∧ (HandAt wq 37 g1 1 1 0 false 0) ∧ (¬ own2m a v g1 ∧ ¬ own2m c u g1 ∧ w.heap.size ≤ g1 ∧ B ≠ g1 ∧ H ≠ g1)))
      · intro hD0
        apply wpAnyH_dag1 (R := (fun (g1 : Nat) (wq : World) => (T9 w wq B H a c v u M6 9 0) ∧ (HandAt wq 37 g1 0 0 0 false 0) ∧ (¬ own2m a v g1 ∧ ¬ own2m c u g1 ∧ w.heap.size ≤ g1 ∧ B ≠ g1 ∧ H ≠ g1)))
        · intro hD1
          apply wpAnyH_dag0 (R := (fun (wq : World) => (T9 w wq B H a c v u M6 9 0)))
          · intro hD2
            apply wpAnyH_dag1 (R := (fun (g1 : Nat) (wq : World) => (T9 w wq B H a c v u M5 9 0) ∧ (HandAt wq 37 g1 0 0 0 false 0) ∧ (¬ own2m a v g1 ∧ ¬ own2m c u g1 ∧ w.heap.size ≤ g1 ∧ B ≠ g1 ∧ H ≠ g1)))
            · intro hD3
              apply wpAnyH_dag0 (R := (fun (wq : World) => (T9 w wq B H a c v u M5 9 0)))
              · intro hD4
                apply wpAnyH_dag1 (R := (fun (g1 : Nat) (wq : World) => (T9 w wq B H a c v u M4 9 0) ∧ (HandAt wq 37 g1 0 0 0 false 0) ∧ (¬ own2m a v g1 ∧ ¬ own2m c u g1 ∧ w.heap.size ≤ g1 ∧ B ≠ g1 ∧ H ≠ g1)))
                · intro hD5
                  refine wpAnyH_take (i := 0) (v := ?_) (by simp only [List.getElem?_toArray, List.getElem?_cons_succ, List.getElem?_cons_zero]; rfl) (by kernel_rfl) (by kernel_rfl) (by kernel_rfl) (by exact fun _ _ _ h => h) (Or.inl ⟨by rfl, ?_⟩) hHeld ?_
                  rotate_left
                  · intro w hSw; (try dsimp only at hSw); go_simp; (try with_reducible rfl)
                  try simp only [Act.put, List.setIfInBounds_toArray, List.set_cons_zero, List.set_cons_succ]
                  refine wpAnyH_take (i := 1) (v := ?_) (by simp only [List.getElem?_toArray, List.getElem?_cons_succ, List.getElem?_cons_zero]; rfl) (by kernel_rfl) (by kernel_rfl) (by kernel_rfl) (by exact fun _ _ _ h => h) (Or.inl ⟨by rfl, ?_⟩) hHeld ?_
                  rotate_left
                  · intro w hSw; (try dsimp only at hSw); go_simp; (try with_reducible rfl)
                  try simp only [Act.put, List.setIfInBounds_toArray, List.set_cons_zero, List.set_cons_succ]
                  refine wpAnyH_take (i := 2) (v := ?_) (by simp only [List.getElem?_toArray, List.getElem?_cons_succ, List.getElem?_cons_zero]; rfl) (by kernel_rfl) (by kernel_rfl) (by kernel_rfl) (by exact fun _ _ _ h => h) (Or.inl ⟨by rfl, ?_⟩) hHeld ?_
                  rotate_left
                  · intro w hSw; (try dsimp only at hSw); go_simp; (try with_reducible rfl)
                  try simp only [Act.put, List.setIfInBounds_toArray, List.set_cons_zero, List.set_cons_succ]
                  refine wpAnyH_take (i := 3) (v := ?_) (by simp only [List.getElem?_toArray, List.getElem?_cons_succ, List.getElem?_cons_zero]; rfl) (by kernel_rfl) (by kernel_rfl) (by kernel_rfl) (by exact fun _ _ _ h => h) (Or.inl ⟨by rfl, ?_⟩) hHeld ?_
                  rotate_left
                  · intro w hSw; (try dsimp only at hSw); go_simp; (try with_reducible rfl)
                  try simp only [Act.put, List.setIfInBounds_toArray, List.set_cons_zero, List.set_cons_succ]
                  refine wpAnyH_take (i := 4) (v := ?_) (by simp only [List.getElem?_toArray, List.getElem?_cons_succ, List.getElem?_cons_zero]; rfl) (by kernel_rfl) (by kernel_rfl) (by kernel_rfl) (by exact fun _ _ _ h => h) (Or.inl ⟨by rfl, ?_⟩) hHeld ?_
                  rotate_left
                  · intro w hSw; (try dsimp only at hSw); go_simp; (try with_reducible rfl)
                  try simp only [Act.put, List.setIfInBounds_toArray, List.set_cons_zero, List.set_cons_succ]
                  refine wpAnyH_ready (rs := [5, 7]) (by kernel_rfl) (by simp) ?_
                  refine AllReadyH.cons (by simp only [List.getElem?_toArray, List.getElem?_cons_succ, List.getElem?_cons_zero]; rfl) (fun kC hkC => ?_) (AllReadyH.cons (by simp only [List.getElem?_toArray, List.getElem?_cons_succ, List.getElem?_cons_zero]; rfl) (fun kC hkC => ?_) AllReadyH.nil)
                  -- operation 5 of state 6
                  · go_simp
                    refine (drop8_any 1 1 9 false 0 a v M4 _ hS.tw.s.m HL4.out).mono ?_; rw [E5.out]; unfold handV; dsimp only; rintro e3 wq ⟨rfl, hm, hkk⟩; have hS := hS.turn hm hkk; (try have p1 := p1.keep hkk n1.1); clear hm hkk; (try go_wp2_with fail)
                    refine hkC.out _ _ ?_ (fun hHeld => ?_)
                    · exact (hS.cells)
                    clear hkC kC
                    try simp only [Act.put, List.setIfInBounds_toArray, List.set_cons_zero, List.set_cons_succ]
                    exact hD4  _ hS
                  -- operation 7 of state 6
                  · go_simp
                    have n1 : ¬ own2m a v wq.heap.size ∧ ¬ own2m c u wq.heap.size ∧ w.heap.size ≤ wq.heap.size ∧ B ≠ wq.heap.size ∧ H ≠ wq.heap.size := ⟨not_own (fun e => by have := blk_lt hS.tw.s.m.hd; omega) (fun e => by have := hS.tw.s.m.own_lt e; omega), not_own (fun e => by have := blk_lt hS.tw.r.m.hd; omega) (fun e => by have := hS.tw.r.m.own_lt e; omega), hS.tw.s.kp.size, fun e => by (have : B < wq.heap.size := World.block_lt_of_cell? wq ⟨B, 0, none⟩ hS.mp.1; omega), fun e => by (have := blk_lt hS.hd; omega)⟩; have p1 := handAt_new wq 37 0 0 0 false 0; have hS := hS.no ((Keeps.refl NoS wq).alloc (.cells #[.int .i64 0, .int .i64 0, .int .i64 0, .bool false, .int .i64 0] 37)); obtain ⟨g1, hg1⟩ : ∃ g, wq.heap.size = g := ⟨_, rfl⟩; rw [hg1] at n1 p1 ⊢; clear hg1; generalize wq.alloc (.cells #[.int .i64 0, .int .i64 0, .int .i64 0, .bool false, .int .i64 0] 37) = wq at *
                    refine hkC.out _ _ ?_ (fun hHeld => ?_)
                    · exact (hS.cells)
                    clear hkC kC
                    try simp only [Act.put, List.setIfInBounds_toArray, List.set_cons_zero, List.set_cons_succ]
                    exact hD5 g1 _ ⟨hS, p1, n1⟩
                · intro g1 wq hR
                  obtain ⟨hS, p1, n1⟩ := hR
                  have hHeld : (fun w' => (w'.cell? ⟨B, 0, none⟩ = some (.int .i64 2) ∧ w'.cell? ⟨B, 1, none⟩ = some (.int .i64 2) ∧ w'.cell? ⟨B, 2, none⟩ = some (.int .i64 4) ∧ w'.cell? ⟨B, 3, none⟩ = some (.int .i64 0) ∧ w'.cell? ⟨B, 4, none⟩ = some (.int .i64 2)) ∧ (w'.cell? ⟨H, 0, none⟩ = some (.int .i64 1) ∧ w'.cell? ⟨H, 1, none⟩ = some (.int .i64 1) ∧ w'.cell? ⟨H, 2, none⟩ = some (.int .i64 9) ∧ w'.cell? ⟨H, 3, none⟩ = some (.bool false) ∧ w'.cell? ⟨H, 4, none⟩ = some (.int .i64 0))) wq := hS.cells
                  refine wpAnyH_ready (rs := [5]) (by kernel_rfl) (by simp) ?_
                  refine AllReadyH.cons (by simp only [List.getElem?_toArray, List.getElem?_cons_succ, List.getElem?_cons_zero]; rfl) (fun kC hkC => ?_) AllReadyH.nil
                  -- operation 5 of state 5
                  · go_simp
                    refine (drop8_any 1 1 9 false 0 a v M4 _ hS.tw.s.m HL4.out).mono ?_; rw [E5.out]; unfold handV; dsimp only; rintro e3 wq ⟨rfl, hm, hkk⟩; have hS := hS.turn hm hkk; (try have p1 := p1.keep hkk n1.1); clear hm hkk; (try go_wp2_with fail)
                    refine hkC.out _ _ ?_ (fun hHeld => ?_)
                    · exact (hS.cells)
                    clear hkC kC
                    try simp only [Act.put, List.setIfInBounds_toArray, List.set_cons_zero, List.set_cons_succ]
                    exact hD3 g1 _ ⟨hS, p1, n1⟩
              · intro wq hR
                have hS := hR
                have hHeld : (fun w' => (w'.cell? ⟨B, 0, none⟩ = some (.int .i64 2) ∧ w'.cell? ⟨B, 1, none⟩ = some (.int .i64 2) ∧ w'.cell? ⟨B, 2, none⟩ = some (.int .i64 4) ∧ w'.cell? ⟨B, 3, none⟩ = some (.int .i64 0) ∧ w'.cell? ⟨B, 4, none⟩ = some (.int .i64 2)) ∧ (w'.cell? ⟨H, 0, none⟩ = some (.int .i64 1) ∧ w'.cell? ⟨H, 1, none⟩ = some (.int .i64 1) ∧ w'.cell? ⟨H, 2, none⟩ = some (.int .i64 9) ∧ w'.cell? ⟨H, 3, none⟩ = some (.bool false) ∧ w'.cell? ⟨H, 4, none⟩ = some (.int .i64 0))) wq := hS.cells
                refine wpAnyH_ready (rs := [6, 7]) (by kernel_rfl) (by simp) ?_
                refine AllReadyH.cons (by simp only [List.getElem?_toArray, List.getElem?_cons_succ, List.getElem?_cons_zero]; rfl) (fun kC hkC => ?_) (AllReadyH.cons (by simp only [List.getElem?_toArray, List.getElem?_cons_succ, List.getElem?_cons_zero]; rfl) (fun kC hkC => ?_) AllReadyH.nil)
                -- operation 6 of state 4
                · go_simp
                  refine (drop8_any 1 1 7 false 0 a v M5 _ hS.tw.s.m HL5.out).mono ?_; rw [E6.out]; unfold handV; dsimp only; rintro e3 wq ⟨rfl, hm, hkk⟩; have hS := hS.turn hm hkk; (try have p1 := p1.keep hkk n1.1); clear hm hkk; (try go_wp2_with fail)
                  refine hkC.out _ _ ?_ (fun hHeld => ?_)
                  · exact (hS.cells)
                  clear hkC kC
                  try simp only [Act.put, List.setIfInBounds_toArray, List.set_cons_zero, List.set_cons_succ]
                  exact hD2  _ hS
                -- operation 7 of state 4
                · go_simp
                  have n1 : ¬ own2m a v wq.heap.size ∧ ¬ own2m c u wq.heap.size ∧ w.heap.size ≤ wq.heap.size ∧ B ≠ wq.heap.size ∧ H ≠ wq.heap.size := ⟨not_own (fun e => by have := blk_lt hS.tw.s.m.hd; omega) (fun e => by have := hS.tw.s.m.own_lt e; omega), not_own (fun e => by have := blk_lt hS.tw.r.m.hd; omega) (fun e => by have := hS.tw.r.m.own_lt e; omega), hS.tw.s.kp.size, fun e => by (have : B < wq.heap.size := World.block_lt_of_cell? wq ⟨B, 0, none⟩ hS.mp.1; omega), fun e => by (have := blk_lt hS.hd; omega)⟩; have p1 := handAt_new wq 37 0 0 0 false 0; have hS := hS.no ((Keeps.refl NoS wq).alloc (.cells #[.int .i64 0, .int .i64 0, .int .i64 0, .bool false, .int .i64 0] 37)); obtain ⟨g1, hg1⟩ : ∃ g, wq.heap.size = g := ⟨_, rfl⟩; rw [hg1] at n1 p1 ⊢; clear hg1; generalize wq.alloc (.cells #[.int .i64 0, .int .i64 0, .int .i64 0, .bool false, .int .i64 0] 37) = wq at *
                  refine hkC.out _ _ ?_ (fun hHeld => ?_)
                  · exact (hS.cells)
                  clear hkC kC
                  try simp only [Act.put, List.setIfInBounds_toArray, List.set_cons_zero, List.set_cons_succ]
                  exact hD3 g1 _ ⟨hS, p1, n1⟩
            · intro g1 wq hR
              obtain ⟨hS, p1, n1⟩ := hR
              have hHeld : (fun w' => (w'.cell? ⟨B, 0, none⟩ = some (.int .i64 2) ∧ w'.cell? ⟨B, 1, none⟩ = some (.int .i64 2) ∧ w'.cell? ⟨B, 2, none⟩ = some (.int .i64 4) ∧ w'.cell? ⟨B, 3, none⟩ = some (.int .i64 0) ∧ w'.cell? ⟨B, 4, none⟩ = some (.int .i64 2)) ∧ (w'.cell? ⟨H, 0, none⟩ = some (.int .i64 1) ∧ w'.cell? ⟨H, 1, none⟩ = some (.int .i64 1) ∧ w'.cell? ⟨H, 2, none⟩ = some (.int .i64 9) ∧ w'.cell? ⟨H, 3, none⟩ = some (.bool false) ∧ w'.cell? ⟨H, 4, none⟩ = some (.int .i64 0))) wq := hS.cells
              refine wpAnyH_ready (rs := [6]) (by kernel_rfl) (by simp) ?_
              refine AllReadyH.cons (by simp only [List.getElem?_toArray, List.getElem?_cons_succ, List.getElem?_cons_zero]; rfl) (fun kC hkC => ?_) AllReadyH.nil
              -- operation 6 of state 3
              · go_simp
                refine (drop8_any 1 1 7 false 0 a v M5 _ hS.tw.s.m HL5.out).mono ?_; rw [E6.out]; unfold handV; dsimp only; rintro e3 wq ⟨rfl, hm, hkk⟩; have hS := hS.turn hm hkk; (try have p1 := p1.keep hkk n1.1); clear hm hkk; (try go_wp2_with fail)
                refine hkC.out _ _ ?_ (fun hHeld => ?_)
                · exact (hS.cells)
                clear hkC kC
                try simp only [Act.put, List.setIfInBounds_toArray, List.set_cons_zero, List.set_cons_succ]
                exact hD1 g1 _ ⟨hS, p1, n1⟩
          · intro wq hR
            have hS := hR
            have hHeld : (fun w' => (w'.cell? ⟨B, 0, none⟩ = some (.int .i64 2) ∧ w'.cell? ⟨B, 1, none⟩ = some (.int .i64 2) ∧ w'.cell? ⟨B, 2, none⟩ = some (.int .i64 4) ∧ w'.cell? ⟨B, 3, none⟩ = some (.int .i64 0) ∧ w'.cell? ⟨B, 4, none⟩ = some (.int .i64 2)) ∧ (w'.cell? ⟨H, 0, none⟩ = some (.int .i64 1) ∧ w'.cell? ⟨H, 1, none⟩ = some (.int .i64 1) ∧ w'.cell? ⟨H, 2, none⟩ = some (.int .i64 9) ∧ w'.cell? ⟨H, 3, none⟩ = some (.bool false) ∧ w'.cell? ⟨H, 4, none⟩ = some (.int .i64 0))) wq := hS.cells
            refine wpAnyH_ready (rs := [7]) (by kernel_rfl) (by simp) ?_
            refine AllReadyH.cons (by simp only [List.getElem?_toArray, List.getElem?_cons_succ, List.getElem?_cons_zero]; rfl) (fun kC hkC => ?_) AllReadyH.nil
            -- operation 7 of state 2
            · go_simp
              have n1 : ¬ own2m a v wq.heap.size ∧ ¬ own2m c u wq.heap.size ∧ w.heap.size ≤ wq.heap.size ∧ B ≠ wq.heap.size ∧ H ≠ wq.heap.size := ⟨not_own (fun e => by have := blk_lt hS.tw.s.m.hd; omega) (fun e => by have := hS.tw.s.m.own_lt e; omega), not_own (fun e => by have := blk_lt hS.tw.r.m.hd; omega) (fun e => by have := hS.tw.r.m.own_lt e; omega), hS.tw.s.kp.size, fun e => by (have : B < wq.heap.size := World.block_lt_of_cell? wq ⟨B, 0, none⟩ hS.mp.1; omega), fun e => by (have := blk_lt hS.hd; omega)⟩; have p1 := handAt_new wq 37 0 0 0 false 0; have hS := hS.no ((Keeps.refl NoS wq).alloc (.cells #[.int .i64 0, .int .i64 0, .int .i64 0, .bool false, .int .i64 0] 37)); obtain ⟨g1, hg1⟩ : ∃ g, wq.heap.size = g := ⟨_, rfl⟩; rw [hg1] at n1 p1 ⊢; clear hg1; generalize wq.alloc (.cells #[.int .i64 0, .int .i64 0, .int .i64 0, .bool false, .int .i64 0] 37) = wq at *
              refine hkC.out _ _ ?_ (fun hHeld => ?_)
              · exact (hS.cells)
              clear hkC kC
              try simp only [Act.put, List.setIfInBounds_toArray, List.set_cons_zero, List.set_cons_succ]
              exact hD1 g1 _ ⟨hS, p1, n1⟩
        · intro g1 wq hR
          obtain ⟨hS, p1, n1⟩ := hR
          have hHeld : (fun w' => (w'.cell? ⟨B, 0, none⟩ = some (.int .i64 2) ∧ w'.cell? ⟨B, 1, none⟩ = some (.int .i64 2) ∧ w'.cell? ⟨B, 2, none⟩ = some (.int .i64 4) ∧ w'.cell? ⟨B, 3, none⟩ = some (.int .i64 0) ∧ w'.cell? ⟨B, 4, none⟩ = some (.int .i64 2)) ∧ (w'.cell? ⟨H, 0, none⟩ = some (.int .i64 1) ∧ w'.cell? ⟨H, 1, none⟩ = some (.int .i64 1) ∧ w'.cell? ⟨H, 2, none⟩ = some (.int .i64 9) ∧ w'.cell? ⟨H, 3, none⟩ = some (.bool false) ∧ w'.cell? ⟨H, 4, none⟩ = some (.int .i64 0))) wq := hS.cells
          refine wpAnyH_ready (rs := [8]) (by kernel_rfl) (by simp) ?_
          refine AllReadyH.cons (by simp only [List.getElem?_toArray, List.getElem?_cons_succ, List.getElem?_cons_zero]; rfl) (fun kC hkC => ?_) AllReadyH.nil
          -- operation 8 of state 1
          · obtain ⟨y0, y1, y2, y3, y4, yf0, yf1, yf2, yf3, yf4, yz⟩ := p1.cells; go_simp; have kk := keeps_hand wq g1 1 1 0 false 0; have hS : T9 w (((((wq.setCell ⟨g1, 0, none⟩ (.int .i64 1)).setCell ⟨g1, 1, none⟩ (.int .i64 1)).setCell ⟨g1, 2, none⟩ (.int .i64 0)).setCell ⟨g1, 3, none⟩ (.bool false)).setCell ⟨g1, 4, none⟩ (.int .i64 0)) B H a c v u M6 9 0 := ⟨hS.tw.far n1.1 n1.2.1 n1.2.2.1 kk, hS.mp.keep kk n1.2.2.2.1, hS.hd.keep kk n1.2.2.2.2, hS.aB, hS.aH, hS.cH, hS.hB, hS.hH, hS.ne⟩; have p1 := handAt_set p1 1 1 0 false 0; generalize ((((wq.setCell ⟨g1, 0, none⟩ (.int .i64 1)).setCell ⟨g1, 1, none⟩ (.int .i64 1)).setCell ⟨g1, 2, none⟩ (.int .i64 0)).setCell ⟨g1, 3, none⟩ (.bool false)).setCell ⟨g1, 4, none⟩ (.int .i64 0) = wq at *; clear y0 y1 y2 y3 y4 yf0 yf1 yf2 yf3 yf4 yz kk
            refine hkC.out _ _ ?_ (fun hHeld => ?_)
            · exact (hS.cells)
            clear hkC kC
            try simp only [Act.put, List.setIfInBounds_toArray, List.set_cons_zero, List.set_cons_succ]
            exact hD0 g1 _ ⟨hS, p1, n1⟩
      intro g1 wq hR
      obtain ⟨hS, p1, n1⟩ := hR
      refine wpAnyH_done (by kernel_rfl) ?_ _
      obtain ⟨⟨m0, m1, m2, m3, m4⟩, c0, c1, c2, c3, c4⟩ := hS.cells
      obtain ⟨d0, d1, d2, d3, d4, _⟩ := p1.cells
      have HS := Lib.hid hS
      clear hS p1 n1 hHeld
      go_wp2_with (first
        | (go_at_call 48; refine (steps_any a v M6 _ HS.out.tw.s.m).mono ?_; rw [E7.out]; rintro e w7 ⟨rfl, rfl⟩)
        | (go_at_call 14; refine (id_any 2 2 4 0 2 1 1 _).mono ?_; rw [id911]; rintro e w8 ⟨rfl, hk8⟩))
      go_ret
      exact ⟨rfl, HS.out.tw.s.kp.trans hk8⟩
end Go.Proofs.Ytjchcmomppfilaa
