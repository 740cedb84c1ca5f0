/- Rows of stripes: the hash of an address; layer 12's example. -/
import Derived.Test.YtiomicjfbbkbaaaWords
namespace Go.Proofs.Ytiomicjfbbkbaaa
open Go.RowKit
theorem bits_i64_xor (x y : Int) : bits .xor .i64 x y = IntKind.i64.wrap (((BitVec.ofInt 64 x).toNat ^^^ (BitVec.ofInt 64 y).toNat : Nat) : Int) := by
  exact congrArg (fun n : Nat => IntKind.i64.wrap (n : Int)) (BitVec.toNat_xor _ _)
theorem xor_bd {x y : Int} (h : 0 ≤ x) (h' : x < 1024) (k : 0 ≤ y) (k' : y < 1024) : 0 ≤ bits .xor .i64 x y ∧ bits .xor .i64 x y < 1024 := by
  have a : (BitVec.ofInt 64 x).toNat < 2 ^ 10 := by have := toNat_ofInt64 x; omega
  have b : (BitVec.ofInt 64 y).toNat < 2 ^ 10 := by have := toNat_ofInt64 y; omega
  have c := Nat.xor_lt_two_pow a b
  rw [bits_i64_xor]
  generalize (BitVec.ofInt 64 x).toNat ^^^ (BitVec.ofInt 64 y).toNat = z at *
  have e : IntKind.i64.wrap (z : Int) = z := (IntWalk.i64_left _).trans (wrap64_id (by omega) (by omega))
  rw [e]
  omega
def xorA (a : Int) : Int := bits .xor .i64 a (a / 16)
def hashV (m : MapS) (a : Int) : Int := if 0 ≤ a ∧ a < sizeP m then xorA a % m.s else -1
theorem size_may {m : MapS} (h : 0 < sizeP m) : May m ∧ sizeP m ≤ 200 := by
  cases hm : mayB m with
  | false => simp [sizeP, hm] at h
  | true =>
    have hb := starts_bd (may_of hm)
    exact ⟨may_of hm, by simp only [sizeP, hm, if_true]; omega⟩
theorem hashV_no {m : MapS} {a : Int} (h : inB a (sizeP m) = false) : hashV m a = -1 := by
  have : ¬ (0 ≤ a ∧ a < sizeP m) := fun h' => by rw [inB_of h'.1 h'.2] at h; cases h
  rw [hashV, if_neg this]
theorem hashV_bd {m : MapS} {a : Int} (h : 0 ≤ a) (h' : a < sizeP m) : hashV m a = xorA a % m.s ∧ 0 ≤ xorA a ∧ xorA a < 1024 ∧ May m := by
  obtain ⟨hm, hs⟩ := size_may (m := m) (by omega)
  have hx := xor_bd (x := a) (y := a / 16) h (by omega) (by omega) (by omega)
  exact ⟨by rw [hashV, if_pos ⟨h, h'⟩], hx.1, hx.2, hm⟩
theorem hash_lt {m : MapS} {a : Int} : -1 ≤ hashV m a ∧ hashV m a < 16 ∧ (0 ≤ hashV m a → hashV m a < m.s ∧ mayB m = true) := by
  by_cases h : 0 ≤ a ∧ a < sizeP m
  · obtain ⟨e, h1, h2, hm⟩ := hashV_bd h.1 h.2
    have s1 := hm.s1; have s2 := hm.s2
    have r0 := Int.emod_nonneg (xorA a) (show m.s ≠ 0 by omega)
    have r1 := Int.emod_lt_of_pos (xorA a) (show 0 < m.s by omega)
    rw [e]
    exact ⟨by omega, by omega, fun _ => ⟨r1, of_may hm⟩⟩
  · rw [hashV, if_neg h]
    exact ⟨by omega, by omega, fun h => by omega⟩
set_option maxRecDepth 100000 in
theorem hash_any (m : MapS) (a : Int) (w : World) : Calls Try.prog 13 #[mapV m, .int .i64 a] w fun e w' => e = .returned (.int .i64 (hashV m a)) ∧ Keeps NoS w w' := by
  cases hin : inB a (sizeP m) with
  | false =>
    rw [hashV_no hin]
    have HI := Lib.hid hin
    clear hin
    obtain ⟨ms, ml, mt, mc, md⟩ := m
    unfold mapV; dsimp only
    go_enter Try.func13, Try.ntmps13
    go_wp2_with (first
      | (go_at_call 9; refine (size_any ⟨ms, ml, mt, mc, md⟩ _).mono ?_; rintro e w1 ⟨rfl, hk1⟩)
      | (go_at_call 31; refine (in_any _ _ _).mono ?_; rw [HI.out]; rintro e w2 ⟨rfl, rfl⟩))
    go_ret
    exact ⟨rfl, ((Keeps.refl NoS w).alloc _).trans hk1⟩
  | true =>
    obtain ⟨t1, t2⟩ := inB_true hin
    obtain ⟨e, x0, x1, hm⟩ := hashV_bd t1 t2
    rw [e]
    have s1 := hm.s1; have s2 := hm.s2
    have hx : bits .xor .i64 a (a / 16) = xorA a := rfl
    have HI := Lib.hid hin; have HX := Lib.hid hx
    clear hin hx hm e t2
    obtain ⟨ms, ml, mt, mc, md⟩ := m
    dsimp only at s1 s2
    unfold mapV; dsimp only
    generalize xorA a = x at *
    have hx := HX.out
    go_enter Try.func13, Try.ntmps13
    go_wp2_with (first
      | (go_at_call 9; refine (size_any ⟨ms, ml, mt, mc, md⟩ _).mono ?_; rintro e w1 ⟨rfl, hk1⟩; obtain ⟨b0, b1, b2, b3, b4, bz⟩ := box_cells hk1)
      | (go_at_call 31; refine (in_any _ _ _).mono ?_; rw [HI.out]; rintro e w2 ⟨rfl, rfl⟩))
    go_ret
    exact ⟨rfl, ((Keeps.refl NoS w).alloc _).trans hk1⟩
theorem hash_lit (ms ml mt mc md a : Int) (v : Int) (h : hashV ⟨ms, ml, mt, mc, md⟩ a = v) (w : World) : Calls Try.prog 13 #[.agg #[.int .i64 ms, .int .i64 ml, .int .i64 mt, .int .i64 mc, .int .i64 md], .int .i64 a] w fun e w' => e = .returned (.int .i64 v) ∧ Keeps NoS w w' := by
  subst h; exact hash_any ⟨ms, ml, mt, mc, md⟩ a w
set_option maxRecDepth 100000 in
theorem rhash_any (m : MapS) (a : Int) (w : World) : Calls Try.prog 30 #[mapV m, .int .i64 a] w fun e w' => e = .returned (.int .i64 (hashV m a)) ∧ Keeps NoS w w' := by
  cases hm : mayB m with
  | false =>
    have hz : sizeP m = 0 := by simp [sizeP, hm]
    have hv : hashV m a = -1 := by rw [hashV, if_neg (by omega)]
    rw [hv]
    have HM := Lib.hid hm
    clear hm hz hv
    obtain ⟨ms, ml, mt, mc, md⟩ := m
    unfold mapV; dsimp only
    go_enter Try.func30, Try.ntmps30
    go_wp2_with (go_at_call 29; refine (rmay_any ⟨ms, ml, mt, mc, md⟩ _).mono ?_; rw [HM.out]; rintro e w1 ⟨rfl, hk1⟩)
    go_ret
    exact ⟨rfl, ((Keeps.refl NoS w).alloc _).trans hk1⟩
  | true =>
    obtain ⟨n, hn⟩ : ∃ n, sizeP m = n := ⟨_, rfl⟩
    have HM := Lib.hid hm; have HN := Lib.hid hn
    have hmm := may_of hm
    have s1 := hmm.s1; have s2 := hmm.s2
    by_cases h0 : a < 0
    · have hv : hashV m a = -1 := by rw [hashV, if_neg (by omega)]
      rw [hv]
      clear hm hn hv hmm
      obtain ⟨ms, ml, mt, mc, md⟩ := m
      unfold mapV; dsimp only
      go_enter Try.func30, Try.ntmps30
      go_wp2_with (go_at_call 29; refine (rmay_any ⟨ms, ml, mt, mc, md⟩ _).mono ?_; rw [HM.out]; rintro e w1 ⟨rfl, hk1⟩)
      go_ret
      exact ⟨rfl, ((Keeps.refl NoS w).alloc _).trans hk1⟩
    · by_cases h1 : n ≤ a
      · have hv : hashV m a = -1 := by rw [hashV, if_neg (by omega)]
        rw [hv]
        clear hm hn hv hmm
        obtain ⟨ms, ml, mt, mc, md⟩ := m
        unfold mapV; dsimp only
        go_enter Try.func30, Try.ntmps30
        go_wp2_with (first
          | (go_at_call 29; refine (rmay_any ⟨ms, ml, mt, mc, md⟩ _).mono ?_; rw [HM.out]; rintro e w1 ⟨rfl, hk1⟩; obtain ⟨b0, b1, b2, b3, b4, bz⟩ := box_cells hk1)
          | (go_at_call 33; refine (rsize_lit ms ml mt mc md n HN.out _).mono ?_; rintro e w2 ⟨rfl, hk2⟩))
        go_ret
        exact ⟨rfl, (((Keeps.refl NoS w).alloc _).trans hk1).trans hk2⟩
      · obtain ⟨e, x0, x1, _⟩ := hashV_bd (m := m) (a := a) (by omega) (by omega)
        have hx : bits .xor .i64 a (a / 16) = xorA a := rfl
        have HX := Lib.hid hx
        rw [e]
        clear hm hn hmm e hx
        obtain ⟨ms, ml, mt, mc, md⟩ := m
        dsimp only at s1 s2
        unfold mapV; dsimp only
        generalize xorA a = x at *
        have hx := HX.out
        go_enter Try.func30, Try.ntmps30
        go_wp2_with (first
          | (go_at_call 29; refine (rmay_any ⟨ms, ml, mt, mc, md⟩ _).mono ?_; rw [HM.out]; rintro e w1 ⟨rfl, hk1⟩; obtain ⟨b0, b1, b2, b3, b4, bz⟩ := box_cells hk1)
          | (go_at_call 33; refine (rsize_lit ms ml mt mc md n HN.out _).mono ?_; rintro e w2 ⟨rfl, hk2⟩; have c0 := hk2.cell b0 (fun f => f)))
        go_ret
        exact ⟨rfl, (((Keeps.refl NoS w).alloc _).trans hk1).trans hk2⟩
theorem rhash_lit (ms ml mt mc md a : Int) (v : Int) (h : hashV ⟨ms, ml, mt, mc, md⟩ a = v) (w : World) : Calls Try.prog 30 #[.agg #[.int .i64 ms, .int .i64 ml, .int .i64 mt, .int .i64 mc, .int .i64 md], .int .i64 a] w fun e w' => e = .returned (.int .i64 v) ∧ Keeps NoS w w' := by
  subst h; exact rhash_any ⟨ms, ml, mt, mc, md⟩ a w
theorem ret_int {k : IntKind} {a b : Int} (h : a = b) : Ending.returned (.int k a) = .returned (.int k b) := by rw [h]
theorem ret_bool {a b : Bool} (h : a = b) : Ending.returned (.bool a) = .returned (.bool b) := by rw [h]
theorem free_any (v : Int) (w : World) : Calls Try.prog 24 #[.int .i64 v] w fun e w' => e = .returned (.int .i64 (wrap64 (v * 16))) ∧ w = w' := by
  go_enter Try.func24, Try.ntmps24
  go_wp2
  go_ret
  exact ⟨rfl, rfl⟩
theorem free_in (v : Int) (w : World) (h : -576460752303423488 ≤ v) (h' : v ≤ 576460752303423487) : Calls Try.prog 24 #[.int .i64 v] w fun e w' => e = .returned (.int .i64 (v * 16)) ∧ w = w' :=
  (free_any v w).mono fun e w' ⟨he, hw⟩ => ⟨by rw [he, wrap64_id (by omega) (by omega)], hw⟩
theorem version_any (v : Int) (w : World) : Calls Try.prog 25 #[.int .i64 v] w fun e w' => e = .returned (.int .i64 (v / 16)) ∧ w = w' := by
  go_enter Try.func25, Try.ntmps25
  go_wp2
  go_ret
  exact ⟨rfl, rfl⟩
theorem taken_any (v t : Int) (w : World) (h1 : 0 ≤ t) (h2 : t < 4) (hx : -9223372036854775808 ≤ v) (hx' : v ≤ 9223372036854775807) : Calls Try.prog 23 #[.int .i64 v, .int .i64 t] w fun e w' => e = .returned (.int .i64 (v - v % 16 + (t + 1))) ∧ w = w' := by
  have H := Lib.hid (low_put v (t + 1) hx hx' (by omega) (by omega))
  clear hx hx'
  go_enter Try.func23, Try.ntmps23
  go_wp2
  go_ret
  exact ⟨ret_int H.out, rfl⟩
theorem told12_any (w : World) : Calls Try.prog 7 #[] w fun e w' => e = .returned (.bool true) ∧ w = w' := by
  go_enter Try.func7, Try.ntmps7
  go_wp2_with (first | (go_at_call 24; refine (free_in _ _ (by omega) (by omega)).mono ?_; rintro e w' ⟨rfl, rfl⟩) | (go_at_call 23; refine (taken_any _ _ _ (by decide) (by decide) (by decide) (by decide)).mono ?_; rintro e w' ⟨rfl, rfl⟩) | (go_at_call 25; refine (version_any _ _).mono ?_; rintro e w' ⟨rfl, rfl⟩))
  go_ret
  exact ⟨rfl, rfl⟩
end Go.Proofs.Ytiomicjfbbkbaaa
