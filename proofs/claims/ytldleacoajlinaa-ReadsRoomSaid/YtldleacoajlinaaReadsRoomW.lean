/- The walk of ReadsRoom. -/
import Derived.Test.YtldleacoajlinaaReadsLaws
import Derived.Test.YtldleacoajlinaaBits
import Derived.Deep.DeepCutAuto
namespace Go.Proofs.Ytldleacoajlinaa
open Go.RowKit

/-- m keys in a row, from k on -/
def rowL (k : Int) (m : Nat) : List (Int × Int) := (List.range m).map fun (j : Nat) => (k + (j : Int), (j : Int))
theorem rowL_len (k : Int) (m : Nat) : (rowL k m).length = m := by simp [rowL]
theorem rowL_succ (k : Int) (m : Nat) : rowL k (m + 1) = rowL k m ++ [(k + (m : Int), (m : Int))] := by simp [rowL, List.range_succ]
theorem rowL_at (k : Int) (m j : Nat) (h : j < m) : (rowL k m).getD j (0, 0) = (k + (j : Int), (j : Int)) := by
  rw [getD_at _ _ _ (by rw [rowL_len]; exact h)]; simp [rowL]
theorem rowL_has (k : Int) (m i : Nat) : hasKey (rowL k m) (k + (i : Int)) = decide (i < m) := by
  rw [Bool.eq_iff_iff]
  simp only [hasKey, rowL, List.any_eq_true, List.mem_map, List.mem_range, decide_eq_true_eq, beq_iff_eq]
  constructor
  · rintro ⟨x, ⟨j, hj, rfl⟩, h⟩
    simp only at h
    omega
  · intro h
    exact ⟨_, ⟨i, h, rfl⟩, rfl⟩
/-- as far as the room goes -/
def rowM (k : Int) (n i : Nat) : List (Int × Int) := rowL k (min i n)
theorem rowM_room (k : Int) (n i : Nat) : roomFor n (rowM k n i) (k + (i : Int)) = decide ((i : Int) < n) := by
  rw [roomFor, rowM, rowL_len, rowL_has, Bool.eq_iff_iff]
  simp only [Bool.or_eq_true, decide_eq_true_eq]
  omega
theorem rowM_put (k : Int) (n i : Nat) : putL n (rowM k n i) (k + (i : Int)) i = rowM k n (i + 1) := by
  unfold putL
  rw [rowM, rowL_has, rowL_len]
  by_cases h : i < n
  · have e1 : min i n = i := by omega
    have e2 : min (i + 1) n = i + 1 := by omega
    rw [rowM, e1, e2, rowL_succ, if_neg (by simp), if_pos (by omega)]
  · have e1 : min i n = n := by omega
    have e2 : min (i + 1) n = n := by omega
    rw [rowM, e1, e2, if_neg (by simp; omega), if_neg (by omega)]
theorem room_at (k : Int) (n i : Nat) (h : i < n) : roomFor n (rowL k n) (k + (i : Int)) = true := by
  rw [roomFor, rowL_has]; simp [h]

set_option maxHeartbeats 1000000 in
set_option maxRecDepth 100000 in
theorem readsRoom_walk (w : World) (a0 : Int) (w0 : (Lit.int .i64 a0).wf = true) (a1 : Int) (w1 : (Lit.int .i64 a1).wf = true) :
    Calls Try.prog 7 #[.int .i64 a0, .int .i64 a1] w fun e w' => e = .returned (.bool true) ∧ Keeps NoS w w' := by
  obtain ⟨n1, n2⟩ := u64_tmod_bd a0 41 (by decide)
  obtain ⟨k1, k2⟩ := u64_tmod_bd a1 1073741824 (by decide)
  obtain ⟨N0, hN0⟩ : ∃ n : Nat, (IntKind.u64.wrap a0).tmod 41 = (n : Int) := Int.eq_ofNat_of_zero_le n1
  obtain ⟨K, hK⟩ : ∃ k, (IntKind.u64.wrap a1).tmod 1073741824 = k := ⟨_, rfl⟩
  rw [hN0] at n1 n2; rw [hK] at k1 k2
  clear w0 w1
  obtain ⟨N, hN⟩ : ∃ n : Nat, n = min N0 32 := ⟨_, rfl⟩
  have hNle : N ≤ 32 := by omega
  have hmin : min (max (N0 : Int) 0) 32 = (N : Int) := by omega
  have Hmin := Lib.hid hmin
  have hcase : ((N0 : Int) ≤ 32 ∧ N0 = N) ∨ ((32 : Int) < N0 ∧ N = 32) := by omega
  clear hmin hN
  go_enter Try.func7, Try.ntmps7
  go_upto_region 5 with (go_at_call 30; refine (rnew_in N0 w).mono ?_; rw [Hmin.out]; rintro e w1 ⟨rfl, hs⟩)
  go_cut [5] (fun n wx => n = .int .i64 (N : Int) ∧ SetIn w wx w.heap.size N (rowM K N 0))
  case first =>
    have hs : SetIn w w1 w.heap.size N (rowM K N 0) := by
      have : rowM K N 0 = [] := by simp [rowM, rowL]
      rw [this]; exact hs
    have HS := Lib.hid hs
    clear hs
    rcases hcase with ⟨hc, rfl⟩ | ⟨hc, h32⟩
    · go_wp2
      all_goals (go_meet; exact ⟨rfl, HS.out⟩)
    · have H32 := Lib.hid h32; clear h32
      go_wp2
      all_goals (go_meet; exact ⟨by rw [H32.out]; rfl, HS.out⟩)
  case rest =>
    obtain ⟨rfl, hs⟩ := hcut
    clear hcase
    go_wp2
    obtain ⟨wo, rfl⟩ : ∃ wo : World, wo = wc := ⟨_, rfl⟩
    go_loopw [8] (fun i wr => ∃ k : Nat, k ≤ N + 3 ∧ i = .int .i64 k ∧ SetIn w wr w.heap.size N (rowM K N k)) (fun i _ => N + 3 - (intOf i).toNat)
    case atStart => exact ⟨0, by omega, rfl, hs⟩
    case round =>
      obtain ⟨k, hk, rfl, hsk⟩ := hrel
      clear hs
      by_cases hlt : k < N + 3
      · have R1 := Lib.hid (rowM_room K N k)
        have P1 := Lib.hid (rowM_put K N k)
        have hlen : (rowM K N k).length < 4096 := by rw [rowM, rowL_len]; omega
        go_wp2_with (first
          | (go_at_call 34; refine (rroom_in w w.heap.size N (rowM K N k) _ _ hsk).mono ?_; rw [R1.out]; rintro e w1 ⟨rfl, hs1⟩)
          | (go_at_call 31; refine (rput_in w w.heap.size N (rowM K N k) _ _ _ hs1 hlen).mono ?_; rw [R1.out, P1.out]; rintro e w2 ⟨rfl, hs2⟩))
        go_roundw
        case rel => exact ⟨k + 1, by omega, by go_num, hs2⟩
        case measure => simp [intOf]; omega
      · have hm : rowM K N k = rowL K N := by rw [rowM, show min k N = N by omega]
        rw [hm] at hsk
        clear hm
        go_wp2
        obtain ⟨wo, rfl⟩ : ∃ wo : World, wo = wr := ⟨_, rfl⟩
        go_loopw [9] (fun i wr => ∃ k : Nat, k ≤ N ∧ i = .int .i64 k ∧ SetIn w wr w.heap.size N (rowL K N)) (fun i _ => N - (intOf i).toNat)
        case atStart => exact ⟨0, by omega, rfl, hsk⟩
        case round =>
          obtain ⟨k, hk, rfl, hs3⟩ := hrel
          clear hsk
          by_cases hlt : k < N
          · have R1 := Lib.hid (room_at K N k hlt)
            have A1 := Lib.hid (rowL_at K N k hlt)
            have hhas : hasKey (rowL K N) (K + (k : Int)) = true := by rw [rowL_has]; simp [hlt]
            have H1 := Lib.hid hhas
            have hl : k < (rowL K N).length := by rw [rowL_len]; exact hlt
            have hfd : ∀ (x y : Int) (w : World), (Instr.field 36 (.agg #[.int .i64 x, .int .i64 y]) 1).run Try.prog w = .ok (.int .i64 y) w := fun _ _ _ => by kernel_rfl
            clear hhas
            go_wp2_with (first
              | (go_at_call 34; refine (rroom_in w w.heap.size N (rowL K N) _ _ hs3).mono ?_; rw [R1.out]; rintro e w1 ⟨rfl, hs1⟩)
              | (go_at_call 35; refine (rhas_in w w.heap.size N (rowL K N) _ _ hs1).mono ?_; rw [H1.out]; rintro e w2 ⟨rfl, hs2⟩)
              | (go_at_call 32; refine (rat_in' w w.heap.size N (rowL K N) k _ hs2 hl).mono ?_; rw [A1.out]; rintro e w4 ⟨rfl, hs4⟩))
            go_roundw
            case rel => exact ⟨k + 1, by omega, by go_num, hs4⟩
            case measure => simp [intOf]; omega
          · obtain rfl : k = N := by omega
            have hhas : hasKey (rowL K k) (K + (k : Int)) = false := by rw [rowL_has]; simp
            have H1 := Lib.hid hhas
            have L1 := Lib.hid (rowL_len K k)
            clear hhas
            go_wp2_with (first
              | (go_at_call 29; refine (told13_any _).mono ?_; rintro e w5 ⟨rfl, hk5⟩)
              | (go_at_call_of 33 (Value.pointer none); refine (rlen_nil _).mono ?_; rintro e w8 ⟨rfl, rfl⟩)
              | (go_at_call 33; refine (rlen_in w w.heap.size k (rowL K k) _ (hs3.keep hk5)).mono ?_; rw [L1.out]; rintro e w6 ⟨rfl, rfl⟩)
              | (go_at_call_of 35 (Value.pointer none); refine (rhas_nil _ _).mono ?_; rintro e w9 ⟨rfl, rfl⟩)
              | (go_at_call 35; refine (rhas_in w w.heap.size k (rowL K k) _ _ (hs3.keep hk5)).mono ?_; rw [H1.out]; rintro e w7 ⟨rfl, hs7⟩)
              | (go_at_call 31; refine (rput_nil _ _ _).mono ?_; rintro e wA ⟨rfl, hkA⟩)
              | (go_at_call 36; refine (rkeys_nil _).mono ?_; rintro e wB ⟨rfl, rfl⟩)
              | (go_at_call 34; refine (rroom_nil _ _).mono ?_; rintro e wC ⟨rfl, hkC⟩))
            go_ret
            exact ⟨rfl, (hs7.kept.trans hkA).trans hkC⟩
end Go.Proofs.Ytldleacoajlinaa
