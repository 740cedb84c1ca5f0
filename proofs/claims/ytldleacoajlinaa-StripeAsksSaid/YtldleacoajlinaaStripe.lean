/- The functions of package stripe, each with what it computes. -/
import Derived.Test.YtldleacoajlinaaRows
import Derived.Test.YtldleacoajlinaaBits
import Derived.WalkKit
import Derived.WalkSpells
import Derived.Lib.Hide
namespace Go.Proofs.Ytldleacoajlinaa
open Go.RowKit

theorem ret_int {k : IntKind} {a b : Int} (h : a = b) : Ending.returned (.int k a) = .returned (.int k b) := by rw [h]
theorem ret_bool {a b : Bool} (h : a = b) : Ending.returned (.bool a) = .returned (.bool b) := by rw [h]

theorem free_any (v : Int) (w : World) : Calls Try.prog 19 #[.int .i64 v] w fun e w' => e = .returned (.int .i64 (wrap64 (v * 16))) ∧ w = w' := by
  go_enter Try.func19, Try.ntmps19
  go_wp2
  go_ret
  exact ⟨rfl, rfl⟩
theorem free_in (v : Int) (w : World) (h : -576460752303423488 ≤ v) (h' : v ≤ 576460752303423487) : Calls Try.prog 19 #[.int .i64 v] w fun e w' => e = .returned (.int .i64 (v * 16)) ∧ w = w' :=
  (free_any v w).mono fun e w' ⟨he, hw⟩ => ⟨by rw [he, wrap64_id (by omega) (by omega)], hw⟩
theorem version_any (v : Int) (w : World) : Calls Try.prog 22 #[.int .i64 v] w fun e w' => e = .returned (.int .i64 (v / 16)) ∧ w = w' := by
  go_enter Try.func22, Try.ntmps22
  go_wp2
  go_ret
  exact ⟨rfl, rfl⟩
theorem holder_any (v : Int) (w : World) : Calls Try.prog 23 #[.int .i64 v] w fun e w' => e = .returned (.int .i64 (v % 16 - 1)) ∧ w = w' := by
  have h : wrap64 (bits .and .i64 v 15 - 1) = v % 16 - 1 := by rw [and_15]; exact wrap64_id (by omega) (by omega)
  have H := Lib.hid h; clear h
  go_enter Try.func23, Try.ntmps23
  go_wp2
  go_ret
  exact ⟨ret_int H.out, rfl⟩
theorem taken_any (v t : Int) (w : World) (h1 : 0 ≤ t) (h2 : t < 4) (hx : -9223372036854775808 ≤ v) (hx' : v ≤ 9223372036854775807) : Calls Try.prog 20 #[.int .i64 v, .int .i64 t] w fun e w' => e = .returned (.int .i64 (v - v % 16 + (t + 1))) ∧ w = w' := by
  have H := Lib.hid (low_put v (t + 1) hx hx' (by omega) (by omega))
  clear hx hx'
  go_enter Try.func20, Try.ntmps20
  go_wp2
  go_ret
  exact ⟨ret_int H.out, rfl⟩
theorem taken_out (v t : Int) (w : World) (h1 : t < 0 ∨ 4 ≤ t) : Calls Try.prog 20 #[.int .i64 v, .int .i64 t] w fun e w' => e = .returned (.int .i64 v) ∧ w = w' := by
  go_enter Try.func20, Try.ntmps20
  rcases h1 with h1 | h1
  all_goals
    go_wp2
    go_ret
    exact ⟨rfl, rfl⟩
def sFresh (x st : Int) : Int := if 0 ≤ x % 16 - 1 then 1 else if st < x / 16 then 2 else 0
theorem fresh_any (v t : Int) (w : World) : Calls Try.prog 27 #[.int .i64 v, .int .i64 t] w fun e w' => e = .returned (.int .i64 (sFresh v t)) ∧ w = w' := by
  unfold sFresh
  go_enter Try.func27, Try.ntmps27
  go_wp2_with (first | (go_at_call 23; refine (holder_any _ _).mono ?_; rintro e w' ⟨rfl, rfl⟩) | (go_at_call 22; refine (version_any _ _).mono ?_; rintro e w' ⟨rfl, rfl⟩))
  all_goals go_ret
  all_goals exact ⟨by simp [*], rfl⟩
theorem told12_any (w : World) : Calls Try.prog 21 #[] w fun e w' => e = .returned (.bool true) ∧ w = w' := by
  go_enter Try.func21, Try.ntmps21
  go_wp2_with (first | (go_at_call 19; refine (free_in _ _ (by omega) (by omega)).mono ?_; rintro e w' ⟨rfl, rfl⟩) | (go_at_call 20; refine (taken_any _ _ _ (by decide) (by decide) (by decide) (by decide)).mono ?_; rintro e w' ⟨rfl, rfl⟩) | (go_at_call 22; refine (version_any _ _).mono ?_; rintro e w' ⟨rfl, rfl⟩))
  go_ret
  exact ⟨rfl, rfl⟩
theorem rversion_any (v : Int) (w : World) : Calls Try.prog 24 #[.int .i64 v] w fun e w' => e = .returned (.int .i64 (v / 16)) ∧ w = w' := by
  go_enter Try.func24, Try.ntmps24
  go_wp2
  go_ret
  exact ⟨rfl, rfl⟩
theorem rholder_any (v : Int) (w : World) : Calls Try.prog 25 #[.int .i64 v] w fun e w' => e = .returned (.int .i64 (v % 16 - 1)) ∧ w = w' := by
  have h : wrap64 (bits .and .i64 v 15 - 1) = v % 16 - 1 := by rw [and_15]; exact wrap64_id (by omega) (by omega)
  have H := Lib.hid h; clear h
  go_enter Try.func25, Try.ntmps25
  go_wp2
  go_ret
  exact ⟨ret_int H.out, rfl⟩
theorem rfresh_any (v t : Int) (w : World) : Calls Try.prog 28 #[.int .i64 v, .int .i64 t] w fun e w' => e = .returned (.int .i64 (sFresh v t)) ∧ w = w' := by
  unfold sFresh
  go_enter Try.func28, Try.ntmps28
  go_wp2_with (first | (go_at_call 25; refine (rholder_any _ _).mono ?_; rintro e w' ⟨rfl, rfl⟩) | (go_at_call 24; refine (rversion_any _ _).mono ?_; rintro e w' ⟨rfl, rfl⟩))
  all_goals go_ret
  all_goals exact ⟨by simp [*], rfl⟩
theorem rtaken_any (v t : Int) (w : World) (h1 : 0 ≤ t) (h2 : t < 4) (hx : -9223372036854775808 ≤ v) (hx' : v ≤ 9223372036854775807) : Calls Try.prog 26 #[.int .i64 v, .int .i64 t] w fun e w' => e = .returned (.int .i64 (v - v % 16 + (t + 1))) ∧ w = w' := by
  have h : wrap64 (wrap64 (wrap64 (v - bits .and .i64 v 15) + t) + 1) = v - v % 16 + (t + 1) := by rw [and_15]; rw [wrap64_id (n := v - v % 16) (by omega) (by omega), wrap64_id (n := v - v % 16 + t) (by omega) (by omega), wrap64_id (by omega) (by omega)]; omega
  have H := Lib.hid h; clear h hx hx'
  go_enter Try.func26, Try.ntmps26
  go_wp2
  go_ret
  exact ⟨ret_int H.out, rfl⟩
theorem rtaken_out (v t : Int) (w : World) (h1 : t < 0 ∨ 4 ≤ t) : Calls Try.prog 26 #[.int .i64 v, .int .i64 t] w fun e w' => e = .returned (.int .i64 v) ∧ w = w' := by
  go_enter Try.func26, Try.ntmps26
  rcases h1 with h1 | h1
  all_goals
    go_wp2
    go_ret
    exact ⟨rfl, rfl⟩
def sTaken (x t : Int) : Int := if t < 0 ∨ 4 ≤ t then x else x - x % 16 + (t + 1)
theorem taken_all (v t : Int) (w : World) (hx : -9223372036854775808 ≤ v) (hx' : v ≤ 9223372036854775807) : Calls Try.prog 20 #[.int .i64 v, .int .i64 t] w fun e w' => e = .returned (.int .i64 (sTaken v t)) ∧ w = w' := by
  by_cases h : t < 0 ∨ 4 ≤ t
  · rw [sTaken, if_pos h]; exact taken_out v t w h
  · rw [sTaken, if_neg h]; exact taken_any v t w (by omega) (by omega) hx hx'
theorem rtaken_all (v t : Int) (w : World) (hx : -9223372036854775808 ≤ v) (hx' : v ≤ 9223372036854775807) : Calls Try.prog 26 #[.int .i64 v, .int .i64 t] w fun e w' => e = .returned (.int .i64 (sTaken v t)) ∧ w = w' := by
  by_cases h : t < 0 ∨ 4 ≤ t
  · rw [sTaken, if_pos h]; exact rtaken_out v t w h
  · rw [sTaken, if_neg h]; exact rtaken_any v t w (by omega) (by omega) hx hx'
end Go.Proofs.Ytldleacoajlinaa
