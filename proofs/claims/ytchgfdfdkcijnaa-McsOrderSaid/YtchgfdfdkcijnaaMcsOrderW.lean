/- Hands hold it one at a time, in the order of their Swaps, and all come to it (the walk). -/
import Derived.Test.YtchgfdfdkcijnaaPlayW
namespace Go.Proofs.Ytchgfdfdkcijnaa
open Go.RowKit
theorem M0_word (i : Nat) : (M0 48).word i = 0 := by
  show (List.replicate 48 (0 : Int)).getD i 0 = 0
  rw [List.getD_eq_getElem?_getD, List.getElem?_replicate]
  split <;> rfl
theorem last_none {M : MemS} (h : M.word (tlA 0) = 0) : lastI M 0 = -1 := by
  unfold lastI
  rw [if_pos (by decide)]
  show thI 0 (M.word (tlA 0)) = -1
  rw [h]; rfl
theorem mod3 (z : Int) : ∃ q : Nat, (IntKind.u64.wrap z).tmod 3 = (q : Int) ∧ q < 3 := by
  obtain ⟨h1, h2⟩ := u64_tmod_bd z 3 (by omega)
  exact ⟨((IntKind.u64.wrap z).tmod 3).toNat, by omega, by omega⟩
set_option maxHeartbeats 40000000 in
set_option maxRecDepth 100000 in
theorem mcsOrder_walk (w : World) (p0 : Value) (L : List Int) (f0 : InI w p0 L) (_f1 : ∀ k, k < L.length → (Lit.int .i64 (L.getD k 0)).wf = true) (a1 : Int) (_w1 : (Lit.int .i64 a1).wf = true) : Calls Try.prog 4 #[p0, .int .i64 a1] w fun e w' => e = .returned (.bool true) ∧ Keeps NoS w w' := by
  have HIN := Lib.hid f0
  obtain ⟨p, cap, rfl, hn, hc, _⟩ := f0
  clear hc _f1 _w1
  by_cases h200 : L.length ≤ 200
  case neg =>
    go_enter Try.func4, Try.ntmps4
    have h200' : (200 : Int) < (L.length : Int) := by omega
    go_wp2_with (go_at_call 12; refine (told9_any _).mono ?_; rintro e w1 ⟨rfl, hk1⟩)
    go_ret
    exact ⟨rfl, hk1⟩
  obtain ⟨q, hq, hq3⟩ := mod3 a1
  go_enter Try.func4, Try.ntmps4
  go_wp2_with (first
    | (go_at_call 13; refine (map8_any _).mono ?_; rintro e w1 ⟨rfl, hk1⟩))
  have hB := mapAt_new w1 2 2 4 0 2 25
  have hk1' := hk1.alloc (.cells #[.int .i64 2, .int .i64 2, .int .i64 4, .int .i64 0, .int .i64 2] 25)
  obtain ⟨B, hBe⟩ : ∃ B, w1.heap.size = B := ⟨_, rfl⟩
  rw [hBe] at hB
  rw [hBe]
  generalize w1.alloc (.cells #[.int .i64 2, .int .i64 2, .int .i64 4, .int .i64 0, .int .i64 2] 25) = W at *
  refine (both_any 2 2 4 0 2 48 m9_size (by decide) (by decide) W).mono ?_
  rintro e w2 ⟨a, c, v, u, rfl, hT⟩
  have hlow : L ≠ [] → ∀ g, (Value.slice p L.length cap).ownBlock = some g → ¬ own2m a v g := fun hne g hg => by
    obtain ⟨b, off, cap', he, hcs⟩ := HIN.out.at (List.length_pos_iff.2 hne)
    have hlt := World.block_lt_of_cell? w _ (hcs 0 (List.length_pos_iff.2 hne))
    rw [he] at hg
    have e : b = g := Option.some.inj (show some b = some g from hg)
    subst e
    have h1 := hk1'.size
    have h2 := hT.s.na
    exact not_own (fun e => by have hlt' : b < w.heap.size := hlt; omega) (fun e => by have := hT.s.nv _ e; have hlt' : b < w.heap.size := hlt; omega)
  have HBm := Lib.hid (fun w' (h : Keeps NoS W w') => mapCs (hB.keep h (fun f => f)))
  have hin2 : InI w2 (.slice p L.length cap) L := by
    obtain ⟨p', cap', he, h1, h2, h3⟩ := HIN.out
    obtain ⟨rfl, _, rfl⟩ := Value.slice.inj he
    exact ⟨p, cap, rfl, h1, fun hne => by
      obtain ⟨b, off, hp, hcs⟩ := h2 hne
      exact ⟨b, off, hp, fun k hk => (hk1'.trans hT.s.kp).cell (hcs k hk) (fun f => f)⟩, h3⟩
  obtain ⟨k, hk, hk1, hk3⟩ : ∃ k : Nat, (1 : Int) + (q : Int) = (k : Int) ∧ 1 ≤ k ∧ k ≤ 3 := ⟨1 + q, by omega, by omega, by omega⟩
  obtain ⟨m0, m1, m2, m3, m4⟩ := HBm.out _ hT.s.kp
  have HT := Lib.hid hT; have HIN2 := Lib.hid hin2; have HLOW := Lib.hid hlow; have HWk := Lib.hid hk1'
  have hAl := hT.s.na
  have hAv := hT.s.nv
  have HAV := Lib.hid (And.intro hAl hAv)
  clear hT hin2 hlow hB hk1 hk1' hBe hn hAl hAv
  go_wp2_with fail
  refine (play_any w2 a v (M0 48) _ L k HT.out.s.m HIN2.out h200 (by omega) hk3 (M0_len 48) M0_word rfl HLOW.out).mono ?_
  rintro e w3 ⟨v1, v2, dn, M, lo, rfl, hm, hkp, hml, hmw, hdl, hr1, hr2⟩
  obtain ⟨n4, hn4⟩ : ∃ n : Nat, 4 * k = n := ⟨_, rfl⟩
  have hl4 : (natsI dn).length = n4 := by rw [natsI_len, hdl, hn4]
  have hk4 : (4 : Int) * (k : Int) = (n4 : Int) := by omega
  have hn0 : 0 < n4 := by omega
  have hn12 : n4 ≤ 12 := by omega
  obtain ⟨g1, c1, rfl, _, hgl1, _, _, hcs1⟩ := hr1.form (by rw [hl4]; exact hn0)
  obtain ⟨g2, c2, rfl, _, hgl2, _, _, hcs2⟩ := hr2.form (by rw [hl4]; exact hn0)
  rw [hl4] at hcs1 hcs2 ⊢
  have hkw : Keeps NoS w w3 := (HWk.out.trans HT.out.s.kp).trans' hkp (fun i hi e => by
    have h1 := HWk.out.size
    rcases e with e | e
    · have := HAV.out.1; omega
    · have := HAV.out.2 i e; omega)
  have hB3 : MapAt w3 B 2 2 4 0 2 := by
    have hb := HBm.out _ HT.out.s.kp
    have hbl : B < W.heap.size := World.block_lt_of_cell? W ⟨B, 0, none⟩ (HBm.out W (Keeps.refl _ _)).1
    have hnb : ¬ own2m a v B := not_own (fun e => by have := HAV.out.1; omega) (fun e => by have := HAV.out.2 B e; omega)
    exact MapAt.keep (w := w2) hb hkp hnb
  have HC1 := Lib.hid hcs1; have HC2 := Lib.hid hcs2; have HM := Lib.hid hm; have HKW := Lib.hid hkw; have HB3 := Lib.hid hB3; have HML := Lib.hid hml; have HMW := Lib.hid hmw
  clear hcs1 hcs2 hm hkw hB3 hml hmw hr1 hr2 hkp hdl hl4 m0 m1 m2 m3 m4 HT HIN2 HLOW HAV HWk HBm HIN hgl1 hgl2
  go_wp2_with fail
  go_loopw [12] (fun iv wq => ∃ j : Nat, j ≤ n4 ∧ iv = .int .i64 j ∧ Keeps NoS w3 wq) (fun iv _ => n4 - (intOf iv).toNat)
  case atStart => exact ⟨0, by omega, rfl, Keeps.refl _ _⟩
  case round =>
    obtain ⟨j, hj, rfl, hkq⟩ := hrel
    have HKQ := Lib.hid hkq
    clear hkq
    by_cases hlt : j < n4
    · have j0 : (0 : Int) ≤ (j : Int) := by omega
      have j1 : (j : Int) < (n4 : Int) := by omega
      have e1 := HKQ.out.cell (HC1.out j hlt) (fun f => f)
      have e2 := HKQ.out.cell (HC2.out j hlt) (fun f => f)
      generalize (natsI dn).getD j 0 = z at *
      go_wp2_with fail
      go_quiet (fail)
      go_wp2_with fail
      go_roundw
      case rel => exact ⟨j + 1, by omega, by go_num, HKQ.out.trans ((Keeps.refl NoS _).drewN _)⟩
      case measure => simp [intOf]; omega
    · obtain rfl : j = n4 := by omega
      obtain ⟨m0, m1, m2, m3, m4⟩ := mapCs (HB3.out.keep HKQ.out (fun f => f))
      have hA := HM.out.keep HKQ.out (fun f => f) (fun _ _ f => f)
      have HA := Lib.hid hA
      have HLT := Lib.hid (show tlA 0 < M.L.length by rw [HML.out]; decide)
      have HLK := Lib.hid (show lockP ⟨2, 2, 4, 0, 2⟩ 0 0 = (tlA 0 : Nat) from tlA_eq (l := 0) (by decide))
      have hlN := last_none HMW.out
      have HLN := Lib.hid hlN
      clear hA hlN
      go_wp2_with (first
        | (go_at_call 12; refine (told9_any _).mono ?_; rintro e w5 ⟨rfl, hk5⟩; have HA5 := Lib.hid (HA.out.keep hk5 (fun f => f) (fun _ _ f => f)); obtain ⟨n0, n1, n2, n3, n4⟩ := mapCs ((HB3.out.keep HKQ.out (fun f => f)).keep hk5 (fun f => f)))
        | (go_at_call 19; refine (last8_any 0 a v M _ HA5.out HML.out).mono ?_; rw [HLN.out]; rintro e w6 ⟨rfl, hk6⟩; have HA6 := Lib.hid (HA5.out.keep hk6 (fun f => f) (fun _ _ f => f)); obtain ⟨q0, q1, q2, q3, q4⟩ := mapCs (((HB3.out.keep HKQ.out (fun f => f)).keep hk5 (fun f => f)).keep hk6 (fun f => f)))
        | (go_at_call 21; refine (lock_lit 2 2 4 0 2 0 0 _ HLK.out _).mono ?_; rintro e w7 ⟨rfl, hk7⟩; have HA7 := Lib.hid (HA6.out.keep hk7 (fun f => f) (fun _ _ f => f)))
        | (go_at_call 20; refine (peek_at a v M (tlA 0) _ HA7.out HLT.out).mono ?_; rw [HMW.out]; rintro e w8 ⟨rfl, rfl⟩))
      go_ret
      exact ⟨rfl, HKW.out.trans (((HKQ.out.trans hk5).trans hk6).trans hk7)⟩
end Go.Proofs.Ytchgfdfdkcijnaa
