/- The walks of the laws of layer 12 that reach no map. -/
import Derived.Test.YtldleacoajlinaaStripe
import Derived.RowKit3
namespace Go.Proofs.Ytldleacoajlinaa
open Go.RowKit

theorem tmod_bd (a : Int) (m : Int) (hm : 0 < m) : -m < a.tmod m ∧ a.tmod m < m := by
  have h1 := Int.tmod_lt_of_pos a hm
  have h2 : -m < a.tmod m := by
    have := Int.tmod_lt_of_pos (-a) hm
    rw [Int.neg_tmod] at this
    omega
  exact ⟨h2, h1⟩
theorem u64_tmod_bd (a : Int) (m : Int) (hm : 0 < m) : 0 ≤ (IntKind.u64.wrap a).tmod m ∧ (IntKind.u64.wrap a).tmod m < m := by
  rw [IntKind.wrap_u64]
  have h0 : 0 ≤ a % 18446744073709551616 := by omega
  rw [Int.tmod_eq_emod_of_nonneg h0]
  exact ⟨Int.emod_nonneg _ (by omega), Int.emod_lt_of_pos _ hm⟩

theorem taken_at (v k t : Int) (w : World) (hv1 : -576460752303423488 ≤ v) (hv2 : v ≤ 576460752303423487) (hk1 : 0 ≤ k) (hk2 : k < 16) (h1 : 0 ≤ t) (h2 : t < 4) :
    Calls Try.prog 20 #[.int .i64 (v * 16 + k), .int .i64 t] w fun e w' => e = .returned (.int .i64 (v * 16 + (t + 1))) ∧ w = w' :=
  (taken_any _ t w h1 h2 (by omega) (by omega)).mono fun e w' ⟨he, hw⟩ => ⟨by rw [he]; exact ret_int (by omega), hw⟩
theorem taken_at0 (v t : Int) (w : World) (hv1 : -576460752303423488 ≤ v) (hv2 : v ≤ 576460752303423487) (h1 : 0 ≤ t) (h2 : t < 4) :
    Calls Try.prog 20 #[.int .i64 (v * 16), .int .i64 t] w fun e w' => e = .returned (.int .i64 (v * 16 + (t + 1))) ∧ w = w' :=
  (taken_any _ t w h1 h2 (by omega) (by omega)).mono fun e w' ⟨he, hw⟩ => ⟨by rw [he]; exact ret_int (by omega), hw⟩
theorem version_at (v k : Int) (w : World) (hk1 : 0 ≤ k) (hk2 : k < 16) : Calls Try.prog 22 #[.int .i64 (v * 16 + k)] w fun e w' => e = .returned (.int .i64 v) ∧ w = w' :=
  (version_any _ w).mono fun e w' ⟨he, hw⟩ => ⟨by rw [he]; exact ret_int (by omega), hw⟩
theorem version_at0 (v : Int) (w : World) : Calls Try.prog 22 #[.int .i64 (v * 16)] w fun e w' => e = .returned (.int .i64 v) ∧ w = w' :=
  (version_any _ w).mono fun e w' ⟨he, hw⟩ => ⟨by rw [he]; exact ret_int (by omega), hw⟩
theorem holder_at (v k : Int) (w : World) (hk1 : 0 ≤ k) (hk2 : k < 15) : Calls Try.prog 23 #[.int .i64 (v * 16 + (k + 1))] w fun e w' => e = .returned (.int .i64 k) ∧ w = w' :=
  (holder_any _ w).mono fun e w' ⟨he, hw⟩ => ⟨by rw [he]; exact ret_int (by omega), hw⟩
theorem holder_at0 (v : Int) (w : World) : Calls Try.prog 23 #[.int .i64 (v * 16)] w fun e w' => e = .returned (.int .i64 (-1)) ∧ w = w' :=
  (holder_any _ w).mono fun e w' ⟨he, hw⟩ => ⟨by rw [he]; exact ret_int (by omega), hw⟩

set_option maxHeartbeats 1000000 in
theorem stripeParts_walk (a0 : Int) (a1 : Int) (a2 : Int) (w0 : (Lit.int .i64 a0).wf = true) (w1 : (Lit.int .i64 a1).wf = true) (w2 : (Lit.int .i64 a2).wf = true) (w : World) :
    Calls Try.prog 3 #[.int .i64 a0, .int .i64 a1, .int .i64 a2] w fun e w' => e = .returned (.bool true) ∧ Grown w w' := by
  obtain ⟨hv1, hv2⟩ := tmod_bd a0 288230376151711744 (by decide)
  obtain ⟨hs1, hs2⟩ := u64_tmod_bd a1 4 (by decide)
  obtain ⟨ht1, ht2⟩ := u64_tmod_bd a2 4 (by decide)
  obtain ⟨V, hV⟩ : ∃ V, a0.tmod 288230376151711744 = V := ⟨_, rfl⟩
  obtain ⟨S, hS⟩ : ∃ S, (IntKind.u64.wrap a1).tmod 4 = S := ⟨_, rfl⟩
  obtain ⟨T, hT⟩ : ∃ T, (IntKind.u64.wrap a2).tmod 4 = T := ⟨_, rfl⟩
  rw [hV] at hv1 hv2; rw [hS] at hs1 hs2; rw [hT] at ht1 ht2
  have hy : (V * 16 + (S + 1) != V * 16) = true := by rw [bne_iff_ne]; omega
  have hst : ((S == T) == (V * 16 + (S + 1) == V * 16 + (T + 1))) = true := by
    by_cases h : S = T
    · subst h; simp
    · have h2 : ¬ V * 16 + (S + 1) = V * 16 + (T + 1) := by omega
      rw [beq_eq_false_iff_ne.2 h, beq_eq_false_iff_ne.2 h2]; rfl
  clear w0 w1 w2
  go_enter Try.func3, Try.ntmps3
  go_wp2_with (first
    | (go_at_call 19; refine (free_in _ _ (by omega) (by omega)).mono ?_; rintro e w' ⟨rfl, rfl⟩)
    | (go_at_call 21; refine (told12_any _).mono ?_; rintro e w' ⟨rfl, rfl⟩)
    | (go_at_call 20; (with_reducible first | refine (taken_at _ _ _ _ (by omega) (by omega) (by omega) (by omega) (by omega) (by omega)).mono ?_ | refine (taken_at0 _ _ _ (by omega) (by omega) (by omega) (by omega)).mono ?_); rintro e w' ⟨rfl, rfl⟩)
    | (go_at_call 22; (with_reducible first | refine (version_at _ _ _ (by omega) (by omega)).mono ?_ | refine (version_at0 _ _).mono ?_); rintro e w' ⟨rfl, rfl⟩)
    | (go_at_call 23; (with_reducible first | refine (holder_at _ _ _ (by omega) (by omega)).mono ?_ | refine (holder_at0 _ _).mono ?_); rintro e w' ⟨rfl, rfl⟩))
  all_goals go_ret
  all_goals exact ⟨rfl, Grown.refl _⟩

set_option maxHeartbeats 1000000 in
theorem stripeAsks_walk (a0 : Int) (a1 : Int) (a2 : Int) (w0 : (Lit.int .i64 a0).wf = true) (w1 : (Lit.int .i64 a1).wf = true) (w2 : (Lit.int .i64 a2).wf = true) (w : World) :
    Calls Try.prog 4 #[.int .i64 a0, .int .i64 a1, .int .i64 a2] w fun e w' => e = .returned (.bool true) ∧ Grown w w' := by
  obtain ⟨b0, b0'⟩ := wf_bd w0
  obtain ⟨hs1, hs2⟩ := u64_tmod_bd a1 6 (by decide)
  obtain ⟨S, hS⟩ : ∃ S, (IntKind.u64.wrap a1).tmod 6 = S := ⟨_, rfl⟩
  rw [hS] at hs1 hs2
  clear w0 w1 w2
  go_enter Try.func4, Try.ntmps4
  go_wp2_with (first
    | (go_at_call 19; refine (free_any _ _).mono ?_; rintro e w' ⟨rfl, rfl⟩)
    | (go_at_call 21; refine (told12_any _).mono ?_; rintro e w' ⟨rfl, rfl⟩)
    | (go_at_call 20; refine (taken_all _ _ _ (by omega) (by omega)).mono ?_; rintro e w' ⟨rfl, rfl⟩)
    | (go_at_call 26; refine (rtaken_all _ _ _ (by omega) (by omega)).mono ?_; rintro e w' ⟨rfl, rfl⟩)
    | (go_at_call 27; refine (fresh_any _ _ _).mono ?_; rintro e w' ⟨rfl, rfl⟩)
    | (go_at_call 28; refine (rfresh_any _ _ _).mono ?_; rintro e w' ⟨rfl, rfl⟩)
    | (go_at_call 22; refine (version_any _ _).mono ?_; rintro e w' ⟨rfl, rfl⟩)
    | (go_at_call 24; refine (rversion_any _ _).mono ?_; rintro e w' ⟨rfl, rfl⟩)
    | (go_at_call 23; refine (holder_any _ _).mono ?_; rintro e w' ⟨rfl, rfl⟩)
    | (go_at_call 25; refine (rholder_any _ _).mono ?_; rintro e w' ⟨rfl, rfl⟩))
  all_goals go_ret
  all_goals exact ⟨rfl, Grown.refl _⟩

theorem fresh_lo (V t : Int) (w : World) (h : V ≤ t) : Calls Try.prog 27 #[.int .i64 (V * 16), .int .i64 t] w fun e w' => e = .returned (.int .i64 0) ∧ w = w' :=
  (fresh_any _ t w).mono fun e w' ⟨he, hw⟩ => ⟨by rw [he, sFresh, if_neg (by omega), if_neg (by omega)], hw⟩
theorem fresh_hi (V t : Int) (w : World) (h : t < V) : Calls Try.prog 27 #[.int .i64 (V * 16), .int .i64 t] w fun e w' => e = .returned (.int .i64 2) ∧ w = w' :=
  (fresh_any _ t w).mono fun e w' ⟨he, hw⟩ => ⟨by rw [he, sFresh, if_neg (by omega), if_pos (by omega)], hw⟩
theorem fresh_held (V k t : Int) (w : World) (h1 : 0 ≤ k) (h2 : k < 15) : Calls Try.prog 27 #[.int .i64 (V * 16 + (k + 1)), .int .i64 t] w fun e w' => e = .returned (.int .i64 1) ∧ w = w' :=
  (fresh_any _ t w).mono fun e w' ⟨he, hw⟩ => ⟨by rw [he, sFresh, if_pos (by omega)], hw⟩

set_option maxHeartbeats 1000000 in
theorem stripeFresh_walk (a0 : Int) (a1 : Int) (a2 : Int) (a3 : Int) (w0 : (Lit.int .i64 a0).wf = true) (w1 : (Lit.int .i64 a1).wf = true) (w2 : (Lit.int .i64 a2).wf = true) (w3 : (Lit.int .i64 a3).wf = true) (w : World) :
    Calls Try.prog 5 #[.int .i64 a0, .int .i64 a1, .int .i64 a2, .int .i64 a3] w fun e w' => e = .returned (.bool true) ∧ Grown w w' := by
  obtain ⟨hv1, hv2⟩ := tmod_bd a0 288230376151711744 (by decide)
  obtain ⟨hs1, hs2⟩ := u64_tmod_bd a3 4 (by decide)
  obtain ⟨V, hV⟩ : ∃ V, a0.tmod 288230376151711744 = V := ⟨_, rfl⟩
  obtain ⟨S, hS⟩ : ∃ S, (IntKind.u64.wrap a3).tmod 4 = S := ⟨_, rfl⟩
  rw [hV] at hv1 hv2; rw [hS] at hs1 hs2
  clear w0 w1 w2 w3
  by_cases hab : a1 ≤ a2 <;> by_cases ha : V ≤ a1 <;> by_cases hb : V ≤ a2
  all_goals first
    | (exfalso; omega)
    | skip
  all_goals
    go_enter Try.func5, Try.ntmps5
    go_wp2_with (first
    | (go_at_call 19; refine (free_in _ _ (by omega) (by omega)).mono ?_; rintro e w' ⟨rfl, rfl⟩)
    | (go_at_call 21; refine (told12_any _).mono ?_; rintro e w' ⟨rfl, rfl⟩)
    | (go_at_call 20; refine (taken_at0 _ _ _ (by omega) (by omega) (by omega) (by omega)).mono ?_; rintro e w' ⟨rfl, rfl⟩)
    | (go_at_call 27; (with_reducible first | refine (fresh_held _ _ _ _ (by omega) (by omega)).mono ?_ | refine (fresh_lo _ _ _ (by omega)).mono ?_ | refine (fresh_hi _ _ _ (by omega)).mono ?_); rintro e w' ⟨rfl, rfl⟩))
  all_goals go_ret
  all_goals first | exact ⟨rfl, Grown.refl _⟩ | exact ⟨ret_bool (by simp; omega), Grown.refl _⟩
end Go.Proofs.Ytldleacoajlinaa
