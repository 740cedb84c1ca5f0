/- The hash of an address (the program's own). -/
import Derived.Test.YtfmamedkiaimpaaPlace
import Derived.Test.YtfmamedkiaimpaaWritesGet
namespace Go.Proofs.Ytfmamedkiaimpaa
open Go.RowKit
theorem bits_i64_xor (x y : Int) : bits .xor .i64 x y = IntKind.i64.wrap (((BitVec.ofInt 64 x).toNat ^^^ (BitVec.ofInt 64 y).toNat : Nat) : Int) := by
  exact congrArg (fun n : Nat => IntKind.i64.wrap (n : Int)) (BitVec.toNat_xor _ _)
theorem xor_bd {x y : Int} (h : 0 ≤ x) (h' : x < 1024) (k : 0 ≤ y) (k' : y < 1024) : 0 ≤ bits .xor .i64 x y ∧ bits .xor .i64 x y < 1024 := by
  have a : (BitVec.ofInt 64 x).toNat < 2 ^ 10 := by have := toNat_ofInt64 x; omega
  have b : (BitVec.ofInt 64 y).toNat < 2 ^ 10 := by have := toNat_ofInt64 y; omega
  have c := Nat.xor_lt_two_pow a b
  rw [bits_i64_xor]
  generalize (BitVec.ofInt 64 x).toNat ^^^ (BitVec.ofInt 64 y).toNat = z at *
  have e : IntKind.i64.wrap (z : Int) = z := (IntWalk.i64_left _).trans (wrap64_id (by omega) (by omega))
  rw [e]
  omega
def xorA (a : Int) : Int := bits .xor .i64 a (a / 16)
def hashV (m : MapS) (a : Int) : Int := if 0 ≤ a ∧ a < sizeP m then xorA a % m.s else -1
theorem size_may {m : MapS} (h : 0 < sizeP m) : May m ∧ sizeP m ≤ 200 := by
  cases hm : mayB m with
  | false => simp [sizeP, hm] at h
  | true =>
    have hb := starts_bd (may_of hm)
    exact ⟨may_of hm, by simp only [sizeP, hm, if_true]; omega⟩
theorem hashV_no {m : MapS} {a : Int} (h : inB a (sizeP m) = false) : hashV m a = -1 := by
  have : ¬ (0 ≤ a ∧ a < sizeP m) := fun h' => by rw [inB_of h'.1 h'.2] at h; cases h
  rw [hashV, if_neg this]
theorem hashV_bd {m : MapS} {a : Int} (h : 0 ≤ a) (h' : a < sizeP m) : hashV m a = xorA a % m.s ∧ 0 ≤ xorA a ∧ xorA a < 1024 ∧ May m := by
  obtain ⟨hm, hs⟩ := size_may (m := m) (by omega)
  have hx := xor_bd (x := a) (y := a / 16) h (by omega) (by omega) (by omega)
  exact ⟨by rw [hashV, if_pos ⟨h, h'⟩], hx.1, hx.2, hm⟩
theorem hash_lt {m : MapS} {a : Int} : -1 ≤ hashV m a ∧ hashV m a < 16 ∧ (0 ≤ hashV m a → hashV m a < m.s ∧ mayB m = true) := by
  by_cases h : 0 ≤ a ∧ a < sizeP m
  · obtain ⟨e, h1, h2, hm⟩ := hashV_bd h.1 h.2
    have s1 := hm.s1; have s2 := hm.s2
    have r0 := Int.emod_nonneg (xorA a) (show m.s ≠ 0 by omega)
    have r1 := Int.emod_lt_of_pos (xorA a) (show 0 < m.s by omega)
    rw [e]
    exact ⟨by omega, by omega, fun _ => ⟨r1, of_may hm⟩⟩
  · rw [hashV, if_neg h]
    exact ⟨by omega, by omega, fun h => by omega⟩
set_option maxRecDepth 100000 in
theorem hash_any (m : MapS) (a : Int) (w : World) : Calls Try.prog 58 #[mapV m, .int .i64 a] w fun e w' => e = .returned (.int .i64 (hashV m a)) ∧ Keeps NoS w w' := by
  cases hin : inB a (sizeP m) with
  | false =>
    rw [hashV_no hin]
    have HI := Lib.hid hin
    clear hin
    obtain ⟨ms, ml, mt, mc, md⟩ := m
    unfold mapV; dsimp only
    go_enter Try.func58, Try.ntmps58
    go_wp2_with (first
      | (go_at_call 49; refine (size_any ⟨ms, ml, mt, mc, md⟩ _).mono ?_; rintro e w1 ⟨rfl, hk1⟩)
      | (go_at_call 41; refine (in_any _ _ _).mono ?_; rw [HI.out]; rintro e w2 ⟨rfl, rfl⟩))
    go_ret
    exact ⟨rfl, ((Keeps.refl NoS w).alloc _).trans hk1⟩
  | true =>
    obtain ⟨t1, t2⟩ := inB_true hin
    obtain ⟨e, x0, x1, hm⟩ := hashV_bd t1 t2
    rw [e]
    have s1 := hm.s1; have s2 := hm.s2
    have hx : bits .xor .i64 a (a / 16) = xorA a := rfl
    have HI := Lib.hid hin; have HX := Lib.hid hx
    clear hin hx hm e t2
    obtain ⟨ms, ml, mt, mc, md⟩ := m
    dsimp only at s1 s2
    unfold mapV; dsimp only
    generalize xorA a = x at *
    have hx := HX.out
    go_enter Try.func58, Try.ntmps58
    go_wp2_with (first
      | (go_at_call 49; refine (size_any ⟨ms, ml, mt, mc, md⟩ _).mono ?_; rintro e w1 ⟨rfl, hk1⟩; obtain ⟨b0, b1, b2, b3, b4, bz⟩ := box_cells hk1)
      | (go_at_call 41; refine (in_any _ _ _).mono ?_; rw [HI.out]; rintro e w2 ⟨rfl, rfl⟩))
    go_ret
    exact ⟨rfl, ((Keeps.refl NoS w).alloc _).trans hk1⟩
theorem hash_lit (ms ml mt mc md a : Int) (v : Int) (h : hashV ⟨ms, ml, mt, mc, md⟩ a = v) (w : World) : Calls Try.prog 58 #[.agg #[.int .i64 ms, .int .i64 ml, .int .i64 mt, .int .i64 mc, .int .i64 md], .int .i64 a] w fun e w' => e = .returned (.int .i64 v) ∧ Keeps NoS w w' := by
  subst h; exact hash_any ⟨ms, ml, mt, mc, md⟩ a w
end Go.Proofs.Ytfmamedkiaimpaa
