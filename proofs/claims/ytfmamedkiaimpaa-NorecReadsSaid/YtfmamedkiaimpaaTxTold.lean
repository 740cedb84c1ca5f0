/- The document's example of chapter 16. -/
import Derived.Test.YtfmamedkiaimpaaRunN
namespace Go.Proofs.Ytfmamedkiaimpaa
open Go.RowKit
/-- an attempt and a memory that are the law's own -/
def LX (w wr : World) (a : Nat) (v : Value) (M : MemS) (X ra wa : Nat) (t : TxS) : Prop :=
  ∃ rv wv vv, NX wr a v M X ra wa rv wv vv t ∧ Keeps NoS w wr ∧ ∀ g, txO X ra wa rv wv vv g ∨ own2m a v g → w.heap.size ≤ g
section
variable {w w1 wr w2 : World} {a X ra wa : Nat} {v rv wv vv : Value} {M M' : MemS} {t t' : TxS}
theorem LX.after (hK : Keeps NoS w wr) (hG : ∀ g, txO X ra wa rv wv vv g ∨ own2m a v g → w.heap.size ≤ g) (h : NXP wr w2 a v M' X ra wa rv wv vv t') : LX w w2 a v M' X ra wa t' := by
  obtain ⟨rv', wv', vv', h1, h2, h3⟩ := h
  have hs := hK.size
  exact ⟨rv', wv', vv', h1, hK.trans' h2 (fun i hi e => absurd (hG i e) (by omega)), fun g e => e.elim (fun e => (h3 g e).elim (fun e => hG g (.inl e)) (fun e => by omega)) (fun e => hG g (.inr e))⟩
theorem NX.made (hm : MemAt w1 a v M) (hn : TxNew w1 w2 X ra wa t) : NX w2 a v M X ra wa (.slice none 0 0) (.slice none 0 0) (.slice none 0 0) t := by
  have hb : ∀ g, own2m a v g → g < w1.heap.size := fun g e => by
    rcases e with e | e
    · rw [e]; exact blk_lt hm.hd
    · exact hm.own_lt e
  refine ⟨hn.tx, hm.keep hn.kp (fun f => f) (fun _ _ f => f), fun g e e2 => ?_⟩
  have := hb g e
  have h1 := hn.hX; have h2 := hn.hr; have h3 := hn.hw
  rcases e2 with z | z | z | z | z | z
  · omega
  · omega
  · omega
  · simp [Value.ownBlock] at z
  · simp [Value.ownBlock] at z
  · simp [Value.ownBlock] at z
theorem LX.made (hm : MemAt w1 a v M) (hk : Keeps NoS w w1) (ha : w.heap.size ≤ a) (hv : ∀ g, v.ownBlock = some g → w.heap.size ≤ g) (hn : TxNew w1 w2 X ra wa t) : LX w w2 a v M X ra wa t := by
  refine ⟨_, _, _, NX.made hm hn, hk.trans hn.kp, fun g e => ?_⟩
  have h1 := hn.hX; have h2 := hn.hr; have h3 := hn.hw; have h4 := hk.size
  rcases e with (z | z | z | z | z | z) | (z | z)
  · omega
  · omega
  · omega
  · simp [Value.ownBlock] at z
  · simp [Value.ownBlock] at z
  · simp [Value.ownBlock] at z
  · omega
  · exact hv g z
end
theorem m16_size : sizeP ⟨3, 1, 3, 0, 4⟩ = ((34 : Nat) : Int) := by kernel_rfl
def lkA : Int := lockP ⟨3, 1, 3, 0, 4⟩ 0 4
def T1 : TxS := (beginT (tx0 1)).1
def S1 : MemS × (TxS × Int) := stepX (M0 34) T1
def T3 : TxS := watchT S1.2.1 lkA 0
def T4 : TxS := (readT T3 (dA 0)).1
def k16 : Nat → MemS × TxS
  | 0 => (S1.1, T4)
  | k + 1 => ((stepX (k16 k).1 (k16 k).2).1, (stepX (k16 k).1 (k16 k).2).2.1)
def c16 (k : Nat) : Int := (stepX (k16 k).1 (k16 k).2).2.2
theorem T1_ok : TI T1 := (TI.new 1).begin
theorem T3_ok : TI T3 := (T1_ok.stepX _).watch lkA 0 (by kernel_rfl) (.inr trivial) (.inl (by kernel_rfl))
theorem k16_ok : ∀ k, TI (k16 k).2
  | 0 => T3_ok.read _
  | k + 1 => (k16_ok k).stepX _
theorem k16_len : ∀ k, k < 3 → (k16 k).1.L.length = 34
  | 0, _ => by kernel_rfl
  | 1, _ => by kernel_rfl
  | 2, _ => by kernel_rfl
  | k + 3, h => absurd h (by omega)
theorem k16_a : (beginT (tx0 1)).2 = 0 ∧ S1.2.2 = 1 ∧ (readT T3 (dA 0)).2 = 0 := ⟨by kernel_rfl, by kernel_rfl, by kernel_rfl⟩
theorem k16_c : c16 0 = 0 ∧ c16 1 = 0 ∧ c16 2 = 1 := ⟨by kernel_rfl, by kernel_rfl, by kernel_rfl⟩
theorem k16_z : (k16 3).1.st = 4 ∧ (k16 3).2.value = 0 ∧ (commitAsk (k16 3).2).2 = 0 := ⟨by kernel_rfl, by kernel_rfl, by kernel_rfl⟩
theorem k16_v : S1.2.1.V.length < 1000000 := by have := (T1_ok.stepX (M0 34)).v; exact Nat.lt_trans this (by decide)
set_option maxHeartbeats 8000000 in
set_option maxRecDepth 100000 in
theorem told16_any (w : World) : Calls Try.prog 7 #[] w fun e w' => e = .returned (.bool true) ∧ Keeps NoS w w' := by
  obtain ⟨ka, ks, kr⟩ := k16_a
  obtain ⟨kz1, kz2, kz3⟩ := k16_z
  have KA := Lib.hid ka; have KS := Lib.hid ks; have KR := Lib.hid kr; have KZ1 := Lib.hid kz1; have KZ2 := Lib.hid kz2; have KZ3 := Lib.hid kz3
  clear ka ks kr kz1 kz2 kz3
  go_enter Try.func7, Try.ntmps7
  go_upto_region 2 with (go_at_call 9; refine (map16_any _).mono ?_; rintro e w1 ⟨rfl, hk1⟩)
  have hB := mapAt_new w1 3 1 3 0 4 31
  have hk1' := hk1.alloc (.cells #[.int .i64 3, .int .i64 1, .int .i64 3, .int .i64 0, .int .i64 4] 31)
  obtain ⟨B, hBe⟩ : ∃ B, w1.heap.size = B := ⟨_, rfl⟩
  have hBl : B < (w1.alloc (.cells #[.int .i64 3, .int .i64 1, .int .i64 3, .int .i64 0, .int .i64 4] 31)).heap.size := by rw [← hBe]; simp
  rw [hBe] at hB
  (try rw [hBe])
  generalize w1.alloc (.cells #[.int .i64 3, .int .i64 1, .int .i64 3, .int .i64 0, .int .i64 4] 31) = W at *
  clear hk1
  obtain ⟨m0, m1, m2, m3, m4⟩ := hB
  have HM := Lib.hid (show ∀ w', Keeps NoS W w' → (w'.cell? ⟨B, 0, none⟩ = some (.int .i64 3) ∧ w'.cell? ⟨B, 1, none⟩ = some (.int .i64 1) ∧ w'.cell? ⟨B, 2, none⟩ = some (.int .i64 3) ∧ w'.cell? ⟨B, 3, none⟩ = some (.int .i64 0) ∧ w'.cell? ⟨B, 4, none⟩ = some (.int .i64 4)) ∧ B < w'.heap.size from fun w' k => ⟨⟨k.cell m0 (fun f => f), k.cell m1 (fun f => f), k.cell m2 (fun f => f), k.cell m3 (fun f => f), k.cell m4 (fun f => f)⟩, Nat.lt_of_lt_of_le hBl k.size⟩)
  go_upto_region 3 with (go_at_call 10; refine (both_any 3 1 3 0 4 34 m16_size (by decide) (by decide) W).mono ?_; rintro e w2 ⟨a, c, v, u, rfl, hT⟩)
  clear m0 m1 m2 m3 m4 hBl
  go_upto_region 6 with (go_at_call 11; refine (xNew16_any 1 1 (.inr (.inl rfl)) _).mono ?_; rintro e w3 ⟨X, ra, wa, rfl, hn⟩)
  have hL : LX W w3 a v (M0 34) X ra wa (tx0 1) := LX.made hT.s.m hT.s.kp hT.s.na hT.s.nv hn
  clear hT hn
  obtain ⟨rv, wv, vv, hN, hK, hG⟩ := hL
  go_upto_region 7 with (go_at_call 29; refine (xBegin_any hN).mono ?_; rw [KA.out]; rintro e w4 ⟨rfl, hP⟩)
  have hL : LX W w4 a v (M0 34) X ra wa T1 := LX.after hK hG hP
  clear hP hK hG hN
  obtain ⟨rv, wv, vv, hN, hK, hG⟩ := hL
  go_upto_region 8 with (go_at_call 26; refine (xStep_any hN (M0_len 34) T1_ok.step).mono ?_; rw [show (stepX (M0 34) T1).2.2 = 1 from KS.out]; rintro e w5 ⟨rfl, hP⟩)
  have hL : LX W w5 a v S1.1 X ra wa S1.2.1 := LX.after hK hG hP
  clear hP hK hG hN
  obtain ⟨rv, wv, vv, hN, hK, hG⟩ := hL
  obtain ⟨⟨m0, m1, m2, m3, m4⟩, hl⟩ := HM.out _ hK
  go_upto_region 9 with (first
    | (go_at_call 13; refine (lock_lit 3 1 3 0 4 0 4 lkA rfl _).mono ?_; rintro e w6 ⟨rfl, hk6⟩; have hN6 := hN.no hk6)
    | (go_at_call 14; refine (xWatch_any hN6 lkA 0 k16_v).mono ?_; rintro e w7 ⟨rfl, hP⟩))
  have hL : LX W w7 a v S1.1 X ra wa T3 := LX.after (hK.trans hk6) hG hP
  clear hP hK hG hN hk6 hN6 m0 m1 m2 m3 m4 hl
  obtain ⟨rv, wv, vv, hN, hK, hG⟩ := hL
  obtain ⟨⟨m0, m1, m2, m3, m4⟩, hl⟩ := HM.out _ hK
  go_upto_region 10 with (first
    | (go_at_call 20; refine (dataAt_lit 3 1 3 0 4 0 (dA 0) rfl _).mono ?_; rintro e w8 ⟨rfl, hk8⟩; have hN8 := hN.no hk8)
    | (go_at_call 28; refine (xRead_any hN8 (dA 0)).mono ?_; rw [KR.out]; rintro e w9 ⟨rfl, hP⟩))
  have hL : LX W w9 a v (k16 0).1 X ra wa (k16 0).2 := LX.after (hK.trans hk8) hG hP
  clear hP hK hG hN hk8 hN8 m0 m1 m2 m3 m4 hl
  have HL0 := Lib.hid hL
  clear hL
  go_wp2_with fail
  go_loopw [8] (fun i wr => ∃ k : Nat, k ≤ 2 ∧ i = .int .i64 k ∧ LX W wr a v (k16 k).1 X ra wa (k16 k).2) (fun i _ => 3 - (intOf i).toNat)
  case atStart => exact ⟨0, by omega, rfl, HL0.out⟩
  case round =>
    obtain ⟨k, hk, rfl, hL⟩ := hrel
    obtain ⟨rv, wv, vv, hN, hK, hG⟩ := hL
    have e9 : decide ((k : Int) < 9) = true := decide_eq_true (by omega)
    obtain ⟨cc, hcc⟩ : ∃ z, c16 k = z := ⟨_, rfl⟩
    have HCC := Lib.hid hcc
    have k0 : (0 : Int) ≤ (k : Int) := by omega
    by_cases h2 : k < 2
    · have hz : cc = 0 := by
        rw [← hcc]
        rcases (show k = 0 ∨ k = 1 by omega) with rfl | rfl
        · exact k16_c.1
        · exact k16_c.2.1
      subst hz
      clear hcc
      go_wp2_with (go_at_call 26; refine (xStep_any hN (k16_len k (by omega)) (k16_ok k).step).mono ?_; rw [show (stepX (k16 k).1 (k16 k).2).2.2 = 0 from HCC.out]; rintro e w5 ⟨rfl, hP⟩; have hL5 : LX W w5 a v (k16 (k + 1)).1 X ra wa (k16 (k + 1)).2 := LX.after hK hG hP)
      go_roundw
      case rel => exact ⟨k + 1, by omega, by go_num, hL5⟩
      case measure => simp [intOf]; omega
    · obtain rfl : k = 2 := by omega
      have hz : cc = 1 := by rw [← hcc]; exact k16_c.2.2
      subst hz
      clear hcc
      go_wp2_with (first
        | (go_at_call 26; refine (xStep_any hN (k16_len 2 (by omega)) (k16_ok 2).step).mono ?_; rw [show (stepX (k16 2).1 (k16 2).2).2.2 = 1 from HCC.out]; rintro e w5 ⟨rfl, hP⟩; have hL5 : LX W w5 a v (k16 3).1 X ra wa (k16 3).2 := LX.after hK hG hP; obtain ⟨rv5, wv5, vv5, hN5, hK5, hG5⟩ := hL5)
        | (go_at_call 30; refine (steps_any a v _ _ hN5.mm).mono ?_; rw [KZ1.out]; rintro e w6 ⟨rfl, hw6⟩; subst hw6)
        | (go_at_call 31; refine (xValue_any hN5).mono ?_; rw [KZ2.out]; rintro e w7 ⟨rfl, hw7⟩; subst hw7)
        | (go_at_call 32; refine (xCommit_any hN5).mono ?_; rw [KZ3.out]; rintro e w8 ⟨rfl, hN8, hk8⟩))
      go_ret
      refine ⟨rfl, hk1'.trans (hK5.trans' hk8 (fun i hi e => ?_))⟩
      have := hG5 X (.inl (.inl rfl))
      have e' : i = X := e
      omega
end Go.Proofs.Ytfmamedkiaimpaa
