/- The walk of WritesRoom. -/
import Derived.Test.YtldleacoajlinaaWritesList
import Derived.Deep.DeepCutAuto
namespace Go.Proofs.Ytldleacoajlinaa
open Go.RowKit
/-- the set after n places were put, i of them anew -/
def wrm (n i : Nat) (x : Int) : List (Int × Int) := (List.range n).map fun j => (((5 * j : Nat) : Int), if j < i then wrap64 (x + (j : Int)) else x)
theorem wr_len (n i : Nat) (x : Int) : (wrm n i x).length = n := by simp [wrm]
theorem wr_get (n i : Nat) (x : Int) (k : Nat) (h : k < n) : (wrm n i x).getD k (0, 0) = (((5 * k : Nat) : Int), if k < i then wrap64 (x + (k : Int)) else x) := by
  rw [getD_at _ _ _ (by rw [wr_len]; exact h)]; simp [wrm]
theorem wr_has (n i : Nat) (x : Int) (k : Nat) : hasKey (wrm n i x) ((5 * k : Nat) : Int) = decide (k < n) := by
  rw [Bool.eq_iff_iff]
  simp only [hasKey, wrm, List.any_map, List.any_eq_true, List.mem_range, Function.comp, beq_iff_eq, decide_eq_true_eq]
  constructor
  · rintro ⟨j, hj, e⟩; omega
  · intro h; exact ⟨k, h, rfl⟩
theorem wr_find (n i : Nat) (x : Int) (k : Nat) (h : k < n) : findL (wrm n i x) ((5 * k : Nat) : Int) = (k : Int) := by
  refine findL_some _ _ k (by rw [wr_len]; exact h) (by rw [wr_get n i x k h]) ?_
  intro y hy e
  have : (wrm n i x).take k = wrm k i x := by
    simp only [wrm, ← List.map_take, List.take_range, Nat.min_eq_left (Nat.le_of_lt h)]
  rw [this] at hy
  simp only [wrm, List.mem_map, List.mem_range] at hy
  obtain ⟨j, hj, rfl⟩ := hy
  simp only at e
  omega
theorem wr_getL (n i : Nat) (x : Int) (h : i < n) : getL (wrm n i x) ((5 * i : Nat) : Int) = x := by
  rw [getL, wr_has, if_pos (by simpa using h), wr_find n i x i h, Int.toNat_natCast, wr_get n i x i h]
  simp
theorem wrP_put (room : Int) (n i : Nat) (x : Int) (h : i < n) : putW room (wrm n i x) ((5 * i : Nat) : Int) (wrap64 (x + (i : Int))) = wrm n (i + 1) x := by
  unfold putW
  rw [if_neg (by omega), wr_has, if_pos (by simpa using h), wr_find n i x i h, Int.toNat_natCast]
  apply List.ext_getElem
  · simp [wr_len]
  · intro k h1 h2
    simp only [wr_len, List.length_set] at h1 h2
    rw [List.getElem_set]
    simp only [wrm, List.getElem_map, List.getElem_range]
    split
    · subst_vars; simp
    · rename_i hne
      have : k < i + 1 ↔ k < i := by omega
      simp [this]
theorem wr_new (room : Int) (i : Nat) (x : Int) (h : (i : Int) < room) : putW room (wrm i 0 x) ((5 * i : Nat) : Int) x = wrm (i + 1) 0 x := by
  unfold putW
  rw [if_neg (by omega), wr_has, if_neg (by simp), if_pos (by rw [wr_len]; exact h)]
  simp [wrm, List.range_succ]
theorem wr_full (n k : Nat) (x : Int) (h : n ≤ k) : putW (n : Int) (wrm n 0 x) ((5 * k : Nat) : Int) x = wrm n 0 x := by
  unfold putW
  rw [if_neg (by omega), wr_has, if_neg (by simp; exact h), if_neg (by rw [wr_len]; omega)]
theorem wr_ok (n k : Nat) (x : Int) : putOk (n : Int) (wrm (min k n) 0 x) ((5 * k : Nat) : Int) = decide (k < n) := by
  rw [Bool.eq_iff_iff]
  simp only [putOk, wr_has, wr_len, Bool.and_eq_true, Bool.or_eq_true, decide_eq_true_eq]
  omega
theorem wr_ok2 (n i k : Nat) (x : Int) (h : k < n) : putOk (n : Int) (wrm n i x) ((5 * k : Nat) : Int) = true := by
  simp only [putOk, wr_has, wr_len, Bool.and_eq_true, Bool.or_eq_true, decide_eq_true_eq]
  exact ⟨by omega, .inl h⟩
theorem wr_step (n k : Nat) (x : Int) : putW (n : Int) (wrm (min k n) 0 x) ((5 * k : Nat) : Int) x = wrm (min (k + 1) n) 0 x := by
  by_cases h : k < n
  · rw [Nat.min_eq_left (by omega), Nat.min_eq_left (by omega)]; exact wr_new _ k x (by omega)
  · rw [Nat.min_eq_right (by omega), Nat.min_eq_right (by omega)]; exact wr_full n k x (by omega)
theorem owns_wordsN {w : World} {v : Value} {l : List (Int × Int)} {n : Nat} (hl : l.length = n) (h : w.ownsRow 0 36 2 v n (flat l)) (hn : 0 < n) :
    ∃ g cap, v = .slice (some ⟨g, 0, none⟩) n cap ∧ g < w.heap.size ∧
      (∀ k, k < n → w.cell? ⟨g, k * 2, none⟩ = some (.int .i64 (l.getD k (0, 0)).1) ∧ w.cell? ⟨g, k * 2 + 1, none⟩ = some (.int .i64 (l.getD k (0, 0)).2)) := by
  subst hl
  rcases owns_words h with ⟨_, rfl⟩ | ⟨g, cap, hv, hg, _, hc⟩
  · simp at hn
  · exact ⟨g, cap, hv, hg, hc⟩
set_option maxHeartbeats 1000000 in
set_option maxRecDepth 100000 in
theorem writesRoom_walk (w : World) (a0 : Int) (_w0 : (Lit.int .i64 a0).wf = true) (x : Int) (_w1 : (Lit.int .i64 x).wf = true) :
    Calls Try.prog 14 #[.int .i64 a0, .int .i64 x] w fun e w' => e = .returned (.bool true) ∧ Keeps NoS w w' := by
  obtain ⟨n1, n2⟩ := u64_tmod_bd a0 41 (by decide)
  obtain ⟨r, hr⟩ : ∃ r : Nat, (IntKind.u64.wrap a0).tmod 41 = (r : Int) := Int.eq_ofNat_of_zero_le n1
  rw [hr] at n1 n2
  obtain ⟨n, hn⟩ : ∃ n, min r 32 = n := ⟨_, rfl⟩
  have hroom : min (max (r : Int) 0) 32 = (n : Int) := by omega
  have hle : n ≤ 32 := by omega
  have HROOM := Lib.hid hroom; have HN := Lib.hid hn
  clear hroom hn
  go_enter Try.func14, Try.ntmps14
  go_upto_region 5 with (go_at_call 46; refine (wnew_in r w w (Keeps.refl _ _)).mono ?_; rintro e w1 ⟨rfl, hs⟩)
  have hs : WrIn w w1 w.heap.size n 0 [] := by have := hs; rw [HROOM.out] at this; exact this
  go_cut [5] (fun s wx => s = .int .i64 (n : Int) ∧ w1 = wx)
  case first =>
    go_wp2
    all_goals
      have hn := HN.out
      go_meet
      exact ⟨congrArg (Value.int .i64) (by omega), rfl⟩
  case rest =>
    obtain ⟨rfl, rfl⟩ := hcut
    clear HROOM HN
    go_wp2_with fail
    go_loopw [7] (fun i wq => ∃ k : Nat, k ≤ n + 2 ∧ i = .int .i64 k ∧ WrIn w wq w.heap.size n 0 (wrm (min k n) 0 x)) (fun i _ => n + 2 - (intOf i).toNat)
    case atStart => exact ⟨0, by omega, rfl, by simpa [wrm] using hs⟩
    case round =>
      obtain ⟨k, hk, rfl, hs2⟩ := hrel
      clear hs
      have h5 : (5 * (k : Int)) = ((5 * k : Nat) : Int) := by omega
      have H5 := Lib.hid h5
      have hok := wr_ok n k x
      have hst := wr_step n k x
      have Hst := Lib.hid hst
      clear h5 hst
      by_cases hlt : k < n + 2
      · have hlt' : (k : Int) < (n : Int) + 2 := by omega
        have hlen : (wrm (min k n) 0 x).length < 4096 := by rw [wr_len]; omega
        by_cases hkn : k < n
        · have Hok := Lib.hid (hok.trans (decide_eq_true hkn))
          clear hok
          go_wp2_with (go_at_call 47; rw [H5.out]; refine (wput_in hs2 hlen _ x).mono ?_; rw [Hok.out, Hst.out]; rintro e w2 ⟨rfl, hs3⟩)
          go_roundw
          case rel => exact ⟨k + 1, by omega, by go_num, hs3⟩
          case measure => simp [intOf]; omega
        · have Hok := Lib.hid (hok.trans (decide_eq_false hkn))
          clear hok
          go_wp2_with (go_at_call 47; rw [H5.out]; refine (wput_in hs2 hlen _ x).mono ?_; rw [Hok.out, Hst.out]; rintro e w2 ⟨rfl, hs3⟩)
          go_roundw
          case rel => exact ⟨k + 1, by omega, by go_num, hs3⟩
          case measure => simp [intOf]; omega
      · have hge : ¬ (k : Int) < (n : Int) + 2 := by omega
        rw [Nat.min_eq_right (by omega)] at hs2
        clear hlt hok Hst H5
        go_wp2_with fail
        go_loopw [8] (fun i wq => ∃ (k : Nat) (asked : Int), k ≤ n ∧ i = .int .i64 k ∧ WrIn w wq w.heap.size n asked (wrm n k x)) (fun i _ => n - (intOf i).toNat)
        case atStart => exact ⟨0, 0, by omega, rfl, hs2⟩
        case round =>
          obtain ⟨k, asked, hk, rfl, hs3⟩ := hrel
          clear hs2 hge
          by_cases hlt : k < n
          · have h5 : (5 * (k : Int)) = ((5 * k : Nat) : Int) := by omega
            have hg : getW (wrm n k x) ((5 * k : Nat) : Int) = x := by rw [getW, if_pos (by omega)]; exact wr_getL n k x hlt
            have hh : hasW (wrm n k x) ((5 * k : Nat) : Int) = true := by simp only [hasW, wr_has, Bool.and_eq_true, decide_eq_true_eq]; omega
            have hok := wr_ok2 n k k x hlt
            have hst := wrP_put n n k x hlt
            have hlen : (wrm n k x).length < 4096 := by rw [wr_len]; omega
            have H5 := Lib.hid h5; have Hg := Lib.hid hg; have Hh := Lib.hid hh; have Hok := Lib.hid hok; have Hst := Lib.hid hst
            clear h5 hg hh hok hst
            go_wp2_with (first
              | (go_at_call 48; rw [H5.out]; refine (wget_into hs3 _).mono ?_; rw [Hg.out, Hh.out]; rintro e w2 ⟨rfl, hs4⟩)
              | (go_at_call 47; rw [H5.out]; refine (wput_in hs4 hlen _ _).mono ?_; rw [Hok.out, Hst.out]; rintro e w3 ⟨rfl, hs5⟩))
            go_roundw
            case rel => exact ⟨k + 1, _, by omega, by go_num, hs5⟩
            case measure => simp [intOf]; omega
          · obtain rfl : k = n := by omega
            have hlist : ∀ j, j < k → (wrm k k x).getD j (0, 0) = (((5 * j : Nat) : Int), wrap64 (x + (j : Int))) := fun j hj => by rw [wr_get k k x j hj, if_pos hj]
            have HL := Lib.hid hlist; have HLEN := Lib.hid (wr_len k k x)
            clear hlist hlt
            go_wp2_with (go_at_call 57; refine (wlist_in hs3).mono ?_; rw [HLEN.out]; rintro e w2 ⟨u, rfl, ho, hkp, hs4⟩; obtain ⟨pu, cu, rfl⟩ := owns_slice ho)
            go_loop [12] (fun i => ∃ j : Nat, j ≤ k ∧ i = .int .i64 j) (fun i => k - (intOf i).toNat)
            case atStart => exact ⟨0, by omega, rfl⟩
            case round =>
              obtain ⟨j, hj, rfl⟩ := hrel
              by_cases hlt : j < k
              · obtain ⟨g, cap, hv, _, hc⟩ := owns_wordsN HLEN.out ho (by omega)
                simp only [Value.slice.injEq, true_and] at hv
                obtain ⟨rfl, rfl⟩ := hv
                obtain ⟨c0, c1⟩ := hc j hlt
                rw [HL.out j hlt] at c0 c1
                have h5 : ((5 * j : Nat) : Int) = 5 * (j : Int) := by omega
                rw [h5] at c0
                clear hc h5
                go_wp2_with fail
                go_round
                case rel => exact ⟨j + 1, by omega, by go_num⟩
                case measure => simp [intOf]; omega
              · obtain rfl : j = k := by omega
                clear ho HL hlt
                go_wp2_with (first
                  | (go_at_call 48; refine (wget_nil _ _).mono ?_; rintro e w3 ⟨rfl, hk3⟩; have hs5 := hs4.keep hk3)
                  | (go_at_call 45; refine (told14_any _).mono ?_; rintro e w4 ⟨rfl, hk4⟩; have hs6 := hs5.keep hk4)
                  | (go_at_call 58; refine (wlen_nil _).mono ?_; rintro e w5 ⟨rfl, rfl⟩)
                  | (go_at_call 50; refine (wfilter_nil _).mono ?_; rintro e w6 ⟨rfl, rfl⟩)
                  | (go_at_call 57; refine (wlist_nil _).mono ?_; rintro e w7 ⟨rfl, rfl⟩)
                  | (go_at_call 47; (with_reducible refine (wput_nil _ _ _).mono ?_); rintro e w8 ⟨rfl, rfl⟩)
                  | (go_at_call 47; (with_reducible refine (wput_neg _ _ _ _ (by decide)).mono ?_); rintro e w9 ⟨rfl, rfl⟩))
                go_ret
                exact ⟨rfl, hs6.kept⟩
end Go.Proofs.Ytldleacoajlinaa
