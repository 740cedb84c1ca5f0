/- The walk of WritesFilter. -/
import Derived.Test.YtldleacoajlinaaWritesLaws
import Derived.Test.YtldleacoajlinaaIn
namespace Go.Proofs.Ytldleacoajlinaa
open Go.RowKit
theorem mod4096 (z : Int) : ∃ r s : Int, (IntKind.u64.wrap z).tmod 4096 = r ∧ 0 ≤ r ∧ r < 4096 ∧ r.tmod 64 = s ∧ 0 ≤ s ∧ s < 64 ∧ IntKind.u64.wrap ((2 : Int) ^ s.toNat) = (bitAt r : Int) ∧ s = r % 64 := by
  have h : 0 ≤ IntKind.u64.wrap z := by rw [IntKind.wrap_u64]; omega
  have h1 : 0 ≤ (IntKind.u64.wrap z).tmod 4096 := Int.tmod_nonneg _ h
  have h2 : (IntKind.u64.wrap z).tmod 4096 < 4096 := by rw [Int.tmod_eq_emod_of_nonneg h]; omega
  have e : ((IntKind.u64.wrap z).tmod 4096).tmod 64 = (IntKind.u64.wrap z).tmod 4096 % 64 := Int.tmod_eq_emod_of_nonneg h1
  refine ⟨_, _, rfl, h1, h2, rfl, by rw [e]; omega, by rw [e]; omega, ?_, e⟩
  rw [e]
  generalize (IntKind.u64.wrap z).tmod 4096 = k
  have hc : (2 : Int) ^ (k % 64).toNat = ((bitAt k : Nat) : Int) := by simp [bitAt]
  have := bitAt_lt k
  rw [hc, IntKind.wrap_u64]; omega
theorem or_self_of (f b : Nat) (h : f &&& b = b) : f ||| b = f := by
  apply Nat.eq_of_testBit_eq
  intro i
  have := congrArg (fun n => n.testBit i) h
  simp only [Nat.testBit_and] at this
  rw [Nat.testBit_or]
  cases hf : f.testBit i <;> simp_all
theorem filterOf_put (room : Int) (l : List (Int × Int)) (k x : Int) (h : putOk room l k = true) : filterOf (putW room l k x) = filterOf l ||| bitAt k := by
  simp only [putOk, Bool.and_eq_true, decide_eq_true_eq, Bool.or_eq_true] at h
  unfold putW
  rw [if_neg (by omega)]
  cases hk : hasKey l k with
  | true =>
    obtain ⟨i, hi, hl, hki⟩ := findL_at l k hk
    rw [if_pos rfl, hi, Int.toNat_natCast, filterOf_set l i k x hl hki]
    have := and_bit l k
    rw [inFilter_has l k hk, if_pos rfl] at this
    exact (or_self_of _ _ this).symm
  | false =>
    rw [hk] at h
    have hr : (l.length : Int) < room := by rcases h.2 with h | h <;> simp_all
    rw [if_neg (by simp), if_pos hr, filterOf_snoc]
theorem pow_bit (q : Int) : IntKind.u64.wrap ((2 : Int) ^ (q % 64).toNat) = (bitAt q : Int) := by
  have hc : (2 : Int) ^ (q % 64).toNat = ((bitAt q : Nat) : Int) := by simp [bitAt]
  have := bitAt_lt q
  rw [hc, IntKind.wrap_u64]; omega
theorem test_in (L : List (Int × Int)) (q : Int) : (bits .and .u64 ((filterOf L : Int) / 2 ^ (q % 64).toNat) 1 == 1) = inFilter L q := by
  have e : ((filterOf L : Int) / 2 ^ (q % 64).toNat) = ((filterOf L / 2 ^ (q % 64).toNat : Nat) : Int) := by simp
  have hl : filterOf L / 2 ^ (q % 64).toNat < 18446744073709551616 := Nat.lt_of_le_of_lt (Nat.div_le_self _ _) (filterOf_lt L)
  have e1 := bits_u64_and (filterOf L / 2 ^ (q % 64).toNat) 1 hl (by decide)
  rw [e, show (1 : Int) = ((1 : Nat) : Int) from rfl, e1, inFilter, Nat.testBit_eq_decide_div_mod_eq, Nat.and_one_is_mod]
  rw [Bool.eq_iff_iff]
  simp
  omega
theorem boolInt_any (b : Bool) (w : World) : Calls Try.prog 51 #[.bool b] w fun e w' => e = .returned (.int .i64 (if b then 1 else 0)) ∧ w = w' := by
  cases b
  all_goals
    go_enter Try.func51, Try.ntmps51
    go_wp2
    go_ret
    exact ⟨rfl, rfl⟩
set_option maxHeartbeats 1000000 in
set_option maxRecDepth 100000 in
theorem writesFilter_main (w : World) (v0 : Value) (zs : List Int) (hin : InI w v0 zs) (a1 : Int) (h30 : zs.length ≤ 30) :
    Calls Try.prog 11 #[v0, .int .i64 a1] w fun e w' => e = .returned (.bool true) ∧ Keeps NoS w w' := by
  obtain ⟨p, cap, rfl, _, hcell, _⟩ := hin
  have Hc := Lib.hid hcell
  clear hcell
  go_enter Try.func11, Try.ntmps11
  go_wp2_with (go_at_call 46; refine (wnew_in 32 w w (Keeps.refl _ _)).mono ?_; rintro e w1 ⟨rfl, hs⟩)
  have hs : WrIn w w1 w.heap.size 32 0 [] := hs
  go_loopw [6, 7] (fun f i wr => ∃ (k : Nat) (L : List (Int × Int)), k ≤ zs.length ∧ i = .int .i64 k ∧ f = .int .u64 (filterOf L : Int) ∧ L.length ≤ k ∧ WrIn w wr w.heap.size 32 0 L) (fun _ i _ => zs.length - (intOf i).toNat)
  case atStart => exact ⟨0, [], by omega, rfl, rfl, by simp, hs⟩
  case round =>
    obtain ⟨k, L, hk, rfl, rfl, hL, hs2⟩ := hrel
    clear hs
    by_cases hlt : k < zs.length
    · obtain ⟨b, off, rfl, hc⟩ := Hc.out (fun e => by rw [e] at hlt; exact absurd hlt (by simp))
      have e0 := hc k hlt
      have d0 := hs2.kept.cell e0 (fun f => f)
      generalize zs.getD k 0 = x at *
      obtain ⟨q, s, hq, q0, q1, hqs, s0, s1, _, _⟩ := mod4096 x
      have hok : putOk 32 L q = true := by simp [putOk]; omega
      have hor : bits .or .u64 (filterOf L : Int) (bitAt q : Int) = (filterOf (putW 32 L q 1) : Int) := by
        rw [filterOf_put _ _ _ _ hok, bits_u64_or _ _ (filterOf_lt L) (bitAt_lt q)]
      have Hok := Lib.hid hok; have Hor := Lib.hid hor
      clear hok hc hor hqs s0 s1
      go_wp2_with (go_at_call 47; refine (wput_in hs2 (by omega) q 1).mono ?_; rw [Hok.out]; rintro e w2 ⟨rfl, hs3⟩)
      go_roundw
      case rel => exact ⟨k + 1, putW 32 L q 1, by omega, by go_num, congrArg (Value.int .u64) (by rw [pow_bit]; exact Hor.out), by have := putW_len 32 L q 1; omega, hs3⟩
      case measure => simp [intOf]; omega
    · obtain rfl : k = zs.length := by omega
      obtain ⟨q, s, hq, q0, q1, hqs, s0, s1, _, _⟩ := mod4096 a1
      clear hlt Hc hqs s0 s1
      have hget : getW L q = getL L q ∧ hasW L q = hasKey L q := by simp [getW, hasW, q0]
      have htest := test_in L q
      cases hf : inFilter L q with
      | false =>
        have hask : askedL L q 0 = 0 := by simp [askedL, hf]
        have hno : hasKey L q = false := by
          cases h : hasKey L q with
          | false => rfl
          | true => rw [inFilter_has L q h] at hf; cases hf
        rw [hf] at htest
        rw [hno] at hget
        have Hget := Lib.hid hget; have Hask := Lib.hid hask
        clear hget hask hf hno
        go_wp2_with (first
          | (go_at_call 48; refine (wget_into hs2 q).mono ?_; rw [Hget.out.1, Hget.out.2, Hask.out]; rintro e w2 ⟨rfl, hs3⟩)
          | (go_at_call 45; refine (told14_any _).mono ?_; rintro e w4 ⟨rfl, hk4⟩; have hs4 := hs3.keep hk4)
          | (go_at_call 50; refine (wfilter_in hs4).mono ?_; rintro e w5 ⟨rfl, rfl⟩)
          | (go_at_call 51; refine (boolInt_any _ _).mono ?_; rintro e w6 ⟨rfl, rfl⟩)
          | (go_at_call 49; first | (refine (wasked_in hs4).mono ?_; rintro e w7 ⟨rfl, rfl⟩) | (refine (wasked_in hs2).mono ?_; rintro e w8 ⟨rfl, rfl⟩)))
        go_ret
        exact ⟨by simp, hs4.kept⟩
      | true =>
        have hask : askedL L q 0 = 1 := by simp only [askedL, q0, hf, decide_true, Bool.true_and, if_true]; exact wrap64_id (by decide) (by decide)
        rw [hf] at htest
        have Hget := Lib.hid hget; have Hask := Lib.hid hask
        clear hget hask hf
        go_wp2_with (first
          | (go_at_call 48; refine (wget_into hs2 q).mono ?_; rw [Hget.out.1, Hget.out.2, Hask.out]; rintro e w2 ⟨rfl, hs3⟩)
          | (go_at_call 45; refine (told14_any _).mono ?_; rintro e w4 ⟨rfl, hk4⟩; have hs4 := hs3.keep hk4)
          | (go_at_call 50; refine (wfilter_in hs4).mono ?_; rintro e w5 ⟨rfl, rfl⟩)
          | (go_at_call 51; refine (boolInt_any _ _).mono ?_; rintro e w6 ⟨rfl, rfl⟩)
          | (go_at_call 49; first | (refine (wasked_in hs4).mono ?_; rintro e w7 ⟨rfl, rfl⟩) | (refine (wasked_in hs2).mono ?_; rintro e w8 ⟨rfl, rfl⟩)))
        go_ret
        exact ⟨by simp, hs4.kept⟩
theorem writesFilter_walk (w : World) (v0 : Value) (zs : List Int) (hin : InI w v0 zs) (_f0 : ∀ k, k < zs.length → (Lit.int .i64 (zs.getD k 0)).wf = true) (a1 : Int) (_w1 : (Lit.int .i64 a1).wf = true) :
    Calls Try.prog 11 #[v0, .int .i64 a1] w fun e w' => e = .returned (.bool true) ∧ Keeps NoS w w' := by
  by_cases h : zs.length ≤ 30
  · exact writesFilter_main w v0 zs hin a1 h
  · obtain ⟨p, cap, rfl, hmax, _, _⟩ := hin
    go_enter Try.func11, Try.ntmps11
    go_wp2_with (go_at_call 45; refine (told14_any _).mono ?_; rintro e w3 ⟨rfl, hk3⟩)
    go_ret
    exact ⟨rfl, hk3⟩
end Go.Proofs.Ytldleacoajlinaa
