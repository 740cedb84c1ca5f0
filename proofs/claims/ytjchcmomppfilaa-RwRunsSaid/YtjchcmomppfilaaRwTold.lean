/- The document's example of chapter 10. -/
import Derived.Test.YtjchcmomppfilaaMcsTold
import Derived.Test.YtjchcmomppfilaaRwTake
namespace Go.Proofs.Ytjchcmomppfilaa
open Go.RowKit
/-- thread 1's hand, to read, behind k steps -/
def k10 : Nat → MemS × HandS
  | 0 => (M0 48, ⟨1, 0, 0, true, 0⟩)
  | k + 1 => wTakeI (k10 k).1 (k10 k).2
def s10 : Nat → Int
  | 0 => 0
  | 1 => 1
  | 2 => 2
  | 3 => 3
  | 4 => 10
  | 5 => 11
  | 6 => 12
  | _ => 9
theorem k10_hand : ∀ k, k < 8 → (k10 k).2 = ⟨1, 0, s10 k, true, 0⟩
  | 0, _ => by kernel_rfl
  | 1, _ => by kernel_rfl
  | 2, _ => by kernel_rfl
  | 3, _ => by kernel_rfl
  | 4, _ => by kernel_rfl
  | 5, _ => by kernel_rfl
  | 6, _ => by kernel_rfl
  | 7, _ => by kernel_rfl
  | k + 8, h => absurd h (by omega)
theorem k10_len : ∀ k, (k10 k).1.L.length = 48
  | 0 => by simp [k10, M0, MemS.new]
  | k + 1 => (wTakeI_len _ _).trans (k10_len k)
theorem k10_drop : ∃ M5 : MemS, wDropI (k10 7).1 ⟨1, 0, 9, true, 0⟩ = (M5, ⟨1, 0, 0, true, 0⟩) ∧ (k10 7).1.st = 7 ∧ (k10 7).1.word (rdA 0) = 1 :=
  ⟨(wDropI (k10 7).1 ⟨1, 0, 9, true, 0⟩).1, by kernel_rfl, by kernel_rfl, by kernel_rfl⟩
theorem fld_hand (t l s : Int) (r : Bool) (x : Int) (w : World) : (Instr.field 37 (.agg #[.int .i64 t, .int .i64 l, .int .i64 s, .bool r, .int .i64 x]) 2).run Try.prog w = .ok (.int .i64 s) w := by kernel_rfl
/-- what told has at hand -/
structure T10 (w wr : World) (B H a c : Nat) (v u : Value) (M : MemS) (s x : Int) : Prop where
  tw : TwoR w wr a c v u M (M0 48)
  mp : MapAt wr B 2 2 4 0 2
  hd : HandAt wr 37 H 1 0 s true x
  aB : ¬ own2m a v B
  aH : ¬ own2m a v H
  cH : ¬ own2m c u H
  hB : w.heap.size ≤ B
  hH : w.heap.size ≤ H
  ne : B ≠ H
section
variable {w wr w' : World} {B H a c g : Nat} {v u : Value} {M M' : MemS} {s x s' x' : Int}
theorem T10.no (h : T10 w wr B H a c v u M s x) (k : Keeps NoS wr w') : T10 w w' B H a c v u M s x :=
  ⟨h.tw.keep k, h.mp.keep k (fun f => f), h.hd.keep k (fun f => f), h.aB, h.aH, h.cH, h.hB, h.hH, h.ne⟩
theorem T10.turn (h : T10 w wr B H a c v u M s x) (hm : MemAt w' a v M') (k : Keeps (own2m a v) wr w') : T10 w w' B H a c v u M' s x :=
  ⟨h.tw.turnS hm k, h.mp.keep k h.aB, h.hd.keep k h.aH, h.aB, h.aH, h.cH, h.hB, h.hH, h.ne⟩
theorem T10.cells (h : T10 w wr B H a c v u M s x) : (wr.cell? ⟨B, 0, none⟩ = some (.int .i64 2) ∧ wr.cell? ⟨B, 1, none⟩ = some (.int .i64 2) ∧ wr.cell? ⟨B, 2, none⟩ = some (.int .i64 4) ∧ wr.cell? ⟨B, 3, none⟩ = some (.int .i64 0) ∧ wr.cell? ⟨B, 4, none⟩ = some (.int .i64 2)) ∧ (wr.cell? ⟨H, 0, none⟩ = some (.int .i64 1) ∧ wr.cell? ⟨H, 1, none⟩ = some (.int .i64 0) ∧ wr.cell? ⟨H, 2, none⟩ = some (.int .i64 s) ∧ wr.cell? ⟨H, 3, none⟩ = some (.bool true) ∧ wr.cell? ⟨H, 4, none⟩ = some (.int .i64 x)) := by
  obtain ⟨c0, c1, c2, c3, c4, _⟩ := h.hd.cells
  exact ⟨h.mp, c0, c1, c2, c3, c4⟩
end
set_option maxHeartbeats 20000000 in
set_option maxRecDepth 100000 in
theorem told10_any (w : World) : Calls Try.prog 39 #[] w fun e w' => e = .returned (.bool true) ∧ Keeps NoS w w' := by
  obtain ⟨M5, e5, e6, e7⟩ := k10_drop
  have E5 := Lib.hid e5; have E6 := Lib.hid e6; have E7 := Lib.hid e7
  clear e5 e6 e7
  go_enter Try.func39, Try.ntmps39
  go_wp2_with (go_at_call 16; refine (map8_any _).mono ?_; rintro e w1 ⟨rfl, hk1⟩)
  have hB := mapAt_new w1 2 2 4 0 2 24
  have hk1' := hk1.alloc (.cells #[.int .i64 2, .int .i64 2, .int .i64 4, .int .i64 0, .int .i64 2] 24)
  obtain ⟨B, hBe⟩ : ∃ B, w1.heap.size = B := ⟨_, rfl⟩
  have hBw : w.heap.size ≤ B := by rw [← hBe]; exact hk1.size
  have hBl : B < (w1.alloc (.cells #[.int .i64 2, .int .i64 2, .int .i64 4, .int .i64 0, .int .i64 2] 24)).heap.size := by rw [← hBe]; simp
  rw [hBe] at hB
  rw [hBe]
  generalize w1.alloc (.cells #[.int .i64 2, .int .i64 2, .int .i64 4, .int .i64 0, .int .i64 2] 24) = W at *
  refine (both_any 2 2 4 0 2 48 m9_size (by decide) (by decide) W).mono ?_
  rintro e w2 ⟨a, c, v, u, rfl, hT⟩
  have hB2 := hB.keep hT.s.kp (fun f => f)
  have haB : ¬ own2m a v B := not_own (fun e => by have := hT.s.na; omega) (fun e => by have := hT.s.nv B e; omega)
  have hT2 : TwoR w w2 a c v u (M0 48) (M0 48) := ⟨⟨hT.s.m, Nat.le_trans hk1'.size hT.s.na, fun g e => Nat.le_trans hk1'.size (hT.s.nv g e), hk1'.trans hT.s.kp⟩, ⟨hT.r.m, Nat.le_trans hk1'.size hT.r.na, fun g e => Nat.le_trans hk1'.size (hT.r.nv g e), hk1'.trans hT.r.kp⟩, hT.ac, hT.vc, hT.ua, hT.vu⟩
  have hH := handAt_new w2 37 1 0 0 true 0
  have haH : ¬ own2m a v w2.heap.size := not_own (fun e => by have := blk_lt hT.s.m.hd; omega) (fun e => by have := hT.s.m.own_lt e; omega)
  have hcH : ¬ own2m c u w2.heap.size := not_own (fun e => by have := blk_lt hT.r.m.hd; omega) (fun e => by have := hT.r.m.own_lt e; omega)
  have hk3 := (Keeps.refl NoS w2).alloc (.cells #[.int .i64 1, .int .i64 0, .int .i64 0, .bool true, .int .i64 0] 37)
  have h10 : T10 w (w2.alloc (.cells #[.int .i64 1, .int .i64 0, .int .i64 0, .bool true, .int .i64 0] 37)) B w2.heap.size a c v u (M0 48) 0 0 :=
    ⟨hT2.keep hk3, hB2.keep hk3 (fun f => f), hH, haB, haH, hcH, hBw, hT2.s.kp.size, by have := hT.s.kp.size; omega⟩
  obtain ⟨H, hHe⟩ : ∃ H, w2.heap.size = H := ⟨_, rfl⟩
  rw [hHe] at h10
  have H10 := Lib.hid h10; have HHE := Lib.hid hHe
  clear hH haH hcH hk3 hT hB hB2 haB hT2 hBl hBw hk1' hk1 hBe hHe h10
  go_wp2_with fail
  rw [HHE.out]
  generalize w2.alloc (.cells #[.int .i64 1, .int .i64 0, .int .i64 0, .bool true, .int .i64 0] 37) = w3 at *
  clear HHE
  go_loopw [5] (fun iv wq => ∃ k : Nat, k ≤ 7 ∧ iv = .int .i64 k ∧ T10 w wq B H a c v u (k10 k).1 (s10 k) 0) (fun iv _ => 7 - (intOf iv).toNat)
  case atStart => exact ⟨0, by omega, rfl, H10.out⟩
  case round =>
    obtain ⟨k, hk, rfl, hS⟩ := hrel
    have HS := Lib.hid hS
    by_cases hk7 : k < 7
    · have k0 : (0 : Int) ≤ (k : Int) := by omega
      have k1 : (k : Int) < 7 := by omega
      obtain ⟨M, hM⟩ : ∃ M, (k10 k).1 = M := ⟨_, rfl⟩
      obtain ⟨M', hM'⟩ : ∃ M, (k10 (k + 1)).1 = M := ⟨_, rfl⟩
      obtain ⟨s', hs'⟩ : ∃ s : Int, s10 (k + 1) = s := ⟨_, rfl⟩
      obtain ⟨s, hs⟩ : ∃ s : Int, s10 k = s := ⟨_, rfl⟩
      have hst : wTakeI M ⟨1, 0, s, true, 0⟩ = (M', ⟨1, 0, s', true, 0⟩) := by
        have h1 := k10_hand k (by omega)
        have h2 := k10_hand (k + 1) (by omega)
        rw [hs] at h1
        rw [hs'] at h2
        rw [← hM, ← h1, ← hM', ← h2]; rfl
      have hml : M.L.length = 48 := by rw [← hM]; exact k10_len k
      rw [hM, hs] at hS
      have HST := Lib.hid hst; have HML := Lib.hid hml; have HM' := Lib.hid hM'; have HS2 := Lib.hid hS; have HSN := Lib.hid hs'
      obtain ⟨⟨m0, m1, m2, m3, m4⟩, c0, c1, c2, c3, c4⟩ := hS.cells
      clear hst hml hM hM' hS HS hs' hs H10
      go_wp2_with fail
      refine (rwtake8_any 1 0 s true 0 a v M _ HS2.out.tw.s.m HML.out).mono ?_
      rw [HST.out]
      unfold handV
      dsimp only
      rintro e w5 ⟨rfl, hm, hk5⟩
      have hS5 := HS2.out.turn hm hk5
      have HS5 := Lib.hid hS5
      clear m0 m1 m2 m3 m4 c0 c1 c2 c3 c4
      obtain ⟨c0, c1, c2, c3, c4, f0, f1, f2, f3, f4, fz⟩ := hS5.hd.cells
      clear hS5 hm hk5 HS2
      have hS6 : T10 w (((((w5.setCell ⟨H, 0, none⟩ (.int .i64 1)).setCell ⟨H, 1, none⟩ (.int .i64 0)).setCell ⟨H, 2, none⟩ (.int .i64 s')).setCell ⟨H, 3, none⟩ (.bool true)).setCell ⟨H, 4, none⟩ (.int .i64 0)) B H a c v u M' s' 0 := by
        have h := HS5.out
        have kk := keeps_hand w5 H 1 0 s' true 0
        exact ⟨h.tw.far h.aH h.cH h.hH kk, h.mp.keep kk h.ne, handAt_set h.hd 1 0 s' true 0, h.aB, h.aH, h.cH, h.hB, h.hH, h.ne⟩
      have HS6 := Lib.hid hS6
      clear hS6 HS5
      go_wp2_with fail
      go_roundw
      case rel => exact ⟨k + 1, by omega, by go_num, by rw [HM'.out, HSN.out]; exact HS6.out⟩
      case measure => simp [intOf]; omega
    · obtain rfl : k = 7 := by omega
      obtain ⟨M7, hM7⟩ : ∃ M, (k10 7).1 = M := ⟨_, rfl⟩
      have hl7 : M7.L.length = 48 := by rw [← hM7]; exact k10_len 7
      rw [hM7] at hS E5 E6 E7
      have HS2 := Lib.hid (show T10 w wr B H a c v u M7 9 0 from hS); have HL7 := Lib.hid hl7
      clear hM7 hl7 hS HS H10
      obtain ⟨⟨m0, m1, m2, m3, m4⟩, c0, c1, c2, c3, c4⟩ := HS2.out.cells
      have hfd := fld_hand 1 0 0 true 0
      go_wp2_with (first
        | (go_at_call 48; refine (steps_any a v M7 _ HS2.out.tw.s.m).mono ?_; rw [E6.out]; rintro e w7 ⟨rfl, rfl⟩)
        | (go_at_call 42; refine (inside8_any 0 (by decide) a v M7 _ HS2.out.tw.s.m HL7.out).mono ?_; rw [E7.out]; rintro e w8 ⟨rfl, hk8⟩; clear m0 m1 m2 m3 m4 c0 c1 c2 c3 c4; have HS8 := Lib.hid (HS2.out.no hk8); obtain ⟨⟨m0, m1, m2, m3, m4⟩, c0, c1, c2, c3, c4⟩ := HS8.out.cells)
        | (go_at_call 43; refine (rwdrop8_any 1 0 9 true 0 a v M7 _ HS8.out.tw.s.m HL7.out).mono ?_; rw [E5.out]; unfold handV; dsimp only; rintro e w9 ⟨rfl, hm, hk9⟩; have HS9 := Lib.hid (HS8.out.turn hm hk9); clear hm hk9))
      go_ret
      exact ⟨rfl, HS9.out.tw.s.kp⟩
end Go.Proofs.Ytjchcmomppfilaa
