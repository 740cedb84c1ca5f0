/- Plain facts on the bits of an int64: no program in sight. -/
import Derived.Laws.BitsAllLaws
import Derived.Laws.BitsLemmas
import Derived.IntWalk
namespace Go.Proofs.Ytfmamedkiaimpaa
open Go.RowKit

theorem toNat_ofInt64 (x : Int) : ((BitVec.ofInt 64 x).toNat : Int) = x % 18446744073709551616 := by
  simp [BitVec.toNat_ofInt]
  omega
theorem bits_i64_and (x y : Int) : bits .and .i64 x y = IntKind.i64.wrap (((BitVec.ofInt 64 x).toNat &&& (BitVec.ofInt 64 y).toNat : Nat) : Int) := by
  exact congrArg (fun n : Nat => IntKind.i64.wrap (n : Int)) (BitVec.toNat_and _ _)
theorem bits_i64_or (x y : Int) : bits .or .i64 x y = IntKind.i64.wrap (((BitVec.ofInt 64 x).toNat ||| (BitVec.ofInt 64 y).toNat : Nat) : Int) := by
  exact congrArg (fun n : Nat => IntKind.i64.wrap (n : Int)) (BitVec.toNat_or _ _)
theorem bits_i64_andNot (x y : Int) : bits .andNot .i64 x y = IntKind.i64.wrap (((BitVec.ofInt 64 x).toNat &&& (~~~ (BitVec.ofInt 64 y)).toNat : Nat) : Int) := by
  exact congrArg (fun n : Nat => IntKind.i64.wrap (n : Int)) (BitVec.toNat_and _ _)

/-- a mask of the lowest bits -/
theorem and_mask (x : Int) (i : Nat) (hi : i ≤ 62) (m : Int) (hm : m = 2 ^ i - 1) : bits .and .i64 x m = x % 2 ^ i := by
  subst hm
  have hp : (2 : Int) ^ i = ((2 ^ i : Nat) : Int) := by simp
  have hle : 2 ^ i ≤ 2 ^ 62 := Nat.pow_le_pow_right (by decide) hi
  have hpos : 0 < 2 ^ i := Nat.two_pow_pos i
  have hy : (BitVec.ofInt 64 ((2 : Int) ^ i - 1)).toNat = 2 ^ i - 1 := by
    have h := toNat_ofInt64 ((2 : Int) ^ i - 1)
    rw [hp] at h ⊢
    have hle' : (2 ^ i : Nat) ≤ 4611686018427387904 := hle
    omega
  rw [bits_i64_and, hy, Nat.and_two_pow_sub_one_eq_mod]
  have hx := toNat_ofInt64 x
  have hmod : ((((BitVec.ofInt 64 x).toNat % 2 ^ i : Nat)) : Int) = x % 2 ^ i := by
    rw [Int.natCast_emod, hx, ← hp]
    rw [show (18446744073709551616 : Int) = 2 ^ 64 from by decide]
    exact Int.emod_emod_of_dvd x (by rw [hp, show (2 : Int) ^ 64 = ((2 ^ 64 : Nat) : Int) from by simp]; exact Int.natCast_dvd_natCast.2 (Nat.pow_dvd_pow 2 (by omega)))
  rw [hmod, IntKind.wrap_i64]
  have h1 : 0 ≤ x % 2 ^ i := Int.emod_nonneg _ (by rw [hp]; omega)
  have h2 : x % 2 ^ i < 2 ^ i := Int.emod_lt_of_pos _ (by rw [hp]; omega)
  rw [hp] at h1 h2 ⊢
  have hle' : (2 ^ i : Nat) ≤ 4611686018427387904 := hle
  omega
theorem and_1 (x : Int) : bits .and .i64 x 1 = x % 2 := and_mask x 1 (by decide) 1 rfl
theorem and_15 (x : Int) : bits .and .i64 x 15 = x % 16 := and_mask x 4 (by decide) 15 rfl
theorem and_63 (x : Int) : bits .and .i64 x 63 = x % 64 := and_mask x 6 (by decide) 63 rfl

/-- the lowest four bits put anew -/
theorem low_put (x y : Int) (hx : -9223372036854775808 ≤ x) (hx' : x ≤ 9223372036854775807) (hy : 0 ≤ y) (hy' : y < 16) :
    bits .or .i64 (bits .andNot .i64 x 15) y = x - x % 16 + y := by
  have e15 : (~~~ (BitVec.ofInt 64 15)) = BitVec.ofNat 64 18446744073709551600 := by decide
  have hA : (BitVec.ofInt 64 (bits .andNot .i64 x 15)).toNat = (BitVec.ofInt 64 x).toNat - (BitVec.ofInt 64 x).toNat % 16 := by
    have hz : (BitVec.ofInt 64 x).toNat &&& (BitVec.ofNat 64 18446744073709551600).toNat = (BitVec.ofInt 64 x).toNat - (BitVec.ofInt 64 x).toNat % 16 := by
      have hlt := (BitVec.ofInt 64 x).isLt
      generalize (BitVec.ofInt 64 x).toNat = n at *
      have h16 : (BitVec.ofNat 64 18446744073709551600).toNat = 18446744073709551600 := by decide
      rw [h16]
      have key : n &&& 18446744073709551600 = (n / 16) * 16 := by
        apply Nat.eq_of_testBit_eq
        intro j
        rw [Nat.testBit_and]
        have e1 : (18446744073709551600 : Nat) = (2 ^ 60 - 1) * 2 ^ 4 := by decide
        have e2 : n / 16 * 16 = (n / 2 ^ 4) * 2 ^ 4 := by simp
        rw [e1, e2, Nat.testBit_mul_two_pow, Nat.testBit_mul_two_pow, Nat.testBit_two_pow_sub_one, Nat.testBit_div_two_pow]
        by_cases h4 : 4 ≤ j
        · rw [show j - 4 + 4 = j from by omega]
          by_cases h60 : j - 4 < 60
          · simp [h4, h60]
          · have hb : n.testBit j = false := Nat.testBit_lt_two_pow (Nat.lt_of_lt_of_le hlt (Nat.pow_le_pow_right (by decide) (by omega)))
            simp [h4, hb]
        · simp [h4]
      rw [key]; omega
    have hw := toNat_ofInt64 (bits .andNot .i64 x 15)
    rw [bits_i64_andNot, e15, hz] at hw ⊢
    have hx0 := toNat_ofInt64 x
    have hlt := (BitVec.ofInt 64 x).isLt
    rw [IntKind.wrap_i64] at hw ⊢
    omega
  have hB : (BitVec.ofInt 64 y).toNat = y.toNat := by have := toNat_ofInt64 y; omega
  rw [bits_i64_or, hA, hB]
  have hx0 := toNat_ofInt64 x
  have hlt := (BitVec.ofInt 64 x).isLt
  have hj : ((BitVec.ofInt 64 x).toNat - (BitVec.ofInt 64 x).toNat % 16) ||| y.toNat = ((BitVec.ofInt 64 x).toNat - (BitVec.ofInt 64 x).toNat % 16) + y.toNat :=
    nat_join 4 _ _ (by omega) (by omega)
  rw [hj, IntKind.wrap_i64]
  omega

/-- within bounds nothing wraps -/
theorem wrap64_id {n : Int} (h : -9223372036854775808 ≤ n) (h' : n ≤ 9223372036854775807) : wrap64 n = n := IntWalk.wrap64_in n ⟨h, h'⟩
theorem wrap64_eq (n : Int) : wrap64 n = (n + 9223372036854775808) % 18446744073709551616 - 9223372036854775808 := by unfold wrap64; rfl
theorem wf_bd {n : Int} (h : (Lit.int .i64 n).wf = true) : -9223372036854775808 ≤ n ∧ n ≤ 9223372036854775807 := by
  simpa [Lit.wf, IntKind.min, IntKind.max, IntKind.signed, IntKind.bits] using h
theorem tmod_bd (a : Int) (m : Int) (hm : 0 < m) : -m < a.tmod m ∧ a.tmod m < m := by
  have h1 := Int.tmod_lt_of_pos a hm
  have h2 : -m < a.tmod m := by
    have := Int.tmod_lt_of_pos (-a) hm
    rw [Int.neg_tmod] at this
    omega
  exact ⟨h2, h1⟩
theorem u64_tmod_bd (a : Int) (m : Int) (hm : 0 < m) : 0 ≤ (IntKind.u64.wrap a).tmod m ∧ (IntKind.u64.wrap a).tmod m < m := by
  rw [IntKind.wrap_u64]
  have h0 : 0 ≤ a % 18446744073709551616 := by omega
  rw [Int.tmod_eq_emod_of_nonneg h0]
  exact ⟨Int.emod_nonneg _ (by omega), Int.emod_lt_of_pos _ hm⟩

end Go.Proofs.Ytfmamedkiaimpaa
