/- The walks of the laws of layer 13. -/
import Derived.Test.YtldleacoajlinaaSetsPlain
import Derived.Deep.RegionHeld3
import Derived.Deep.RegionWith
namespace Go.Proofs.Ytldleacoajlinaa
open Go.RowKit

theorem bl1 {h x : Bool} (e : false = !h) : false = !(h || x) := by cases h <;> simp_all
theorem bl2 {h : Bool} {a b : Int} (e : true = !h) : (a != b) = !(h || (a == b)) := by cases h <;> simp_all [bne]
theorem told13_any (w : World) : Calls Try.prog 29 #[] w fun e w' => e = .returned (.bool true) ∧ Keeps NoS w w' := by
  go_enter Try.func29, Try.ntmps29
  go_wp2_with fail
  refine (rnew_any 4 w).mono ?_
  rintro e w1 ⟨rfl, hs, hk, hz⟩
  go_wp2_with fail
  refine (rput_new _ _ _ _ 3 1 w1 hs (by decide) (by decide) (by decide)).mono ?_
  rintro e w2 ⟨rfl, v2, hs2, hk2, hn2⟩
  go_wp2_with fail
  refine (rput_has _ _ _ _ 3 2 w2 hs2 (by decide)).mono ?_
  rintro e w3 ⟨rfl, hk3⟩
  have hs3 := hs2.keep hk3 (fun f => f) (fun _ _ f => f)
  go_wp2_with fail
  refine (rlen_any _ _ _ _ w3 hs3).mono ?_
  rintro e w4 ⟨rfl, rfl⟩
  go_wp2_with fail
  refine (rat_in _ _ _ _ 0 w3 hs3 (by decide)).mono ?_
  rintro e w5 ⟨rfl, hk5⟩
  go_wp2_with fail
  go_ret
  refine ⟨rfl, ((hk.trans' hk2 ?_).trans hk3).trans hk5⟩
  intro i hi ht
  rcases ht with h | h
  · omega
  · simp [Value.ownBlock] at h

set_option maxHeartbeats 1000000 in
set_option maxRecDepth 100000 in
theorem readsFirst_main (v : Value) (ls : List (Int × Int)) (x : Int) (w : World) (hin : InW w v ls) (h1 : 0 < ls.length) (h2 : ls.length ≤ 30) :
    Calls Try.prog 6 #[v, .int .i64 x] w fun e w' => e = .returned (.bool true) ∧ Keeps NoS w w' := by
  obtain ⟨b, off, cap, rfl, hc⟩ := hin.at h1
  have Hc := Lib.hid hc
  clear hc hin
  go_enter Try.func6, Try.ntmps6
  go_wp2_with (go_at_call 30; refine (rnew_in 32 w).mono ?_; rintro e w1 ⟨rfl, hs⟩)
  have hs : SetIn w w1 w.heap.size 32 (dedup (ls.take 0)) := hs
  go_loopw [6] (fun i wr => ∃ k : Nat, k ≤ ls.length ∧ i = .int .i64 k ∧ SetIn w wr w.heap.size 32 (dedup (ls.take k))) (fun i _ => ls.length - (intOf i).toNat)
  case atStart => exact ⟨0, by omega, rfl, hs⟩
  case round =>
    obtain ⟨k, hk, rfl, hsk⟩ := hrel
    clear hs
    by_cases hlt : k < ls.length
    · have hc := Hc.out k hlt
      have d0 := hsk.kept.cell hc.1 (fun f => f)
      have d1 := hsk.kept.cell hc.2 (fun f => f)
      have hlen := dedup_le (ls.take k)
      have hlen2 := dedup_le (ls.take (k + 1))
      rw [List.length_take] at hlen hlen2
      have P1 := Lib.hid (putL_dedup 32 ls k hlt (by omega))
      have P2 := Lib.hid (putL_again 32 ls k hlt x)
      have R1 := Lib.hid (room_dedup 32 ls k hlt (by omega) (ls.getD k (0, 0)).1)
      have R2 := Lib.hid (room_again 32 ls k hlt)
      obtain ⟨e0, e1⟩ := hc
      generalize (ls.getD k (0, 0)).1 = key at *
      generalize (ls.getD k (0, 0)).2 = val at *
      go_wp2
      go_region_held3 (fun w' => w'.cell? ⟨b, off + k * 2, none⟩ = some (.int .i64 key) ∧ w'.cell? ⟨b, off + k * 2 + 1, none⟩ = some (.int .i64 val)) (first | exact ⟨d0, d1⟩ | exact ⟨hs2.kept.cell e0 (fun f => f), hs2.kept.cell e1 (fun f => f)⟩ | exact ⟨hs1.kept.cell e0 (fun f => f), hs1.kept.cell e1 (fun f => f)⟩)
        (first
          | (go_at_call_of 31 (Value.int .i64 val); refine (rput_in w w.heap.size 32 (dedup (ls.take k)) key val _ hsk.drew (by omega)).mono ?_; rw [R1.out, P1.out]; rintro e w1 ⟨rfl, hs1⟩)
          | (go_at_call_of 31 (Value.int .i64 x); refine (rput_in w w.heap.size 32 (dedup (ls.take (k + 1))) key x _ hs1 (by omega)).mono ?_; rw [R2.out, P2.out]; rintro e w2 ⟨rfl, hs2⟩))
      go_wp2
      go_roundw
      case rel => exact ⟨k + 1, by omega, by go_num, hs2⟩
      case measure => simp [intOf]; omega
    · obtain rfl : k = ls.length := by omega
      rw [List.take_length] at hsk
      go_wp2
      obtain ⟨wo, rfl⟩ : ∃ wo : World, wo = wr := ⟨_, rfl⟩
      go_loopw [7, 8] (fun n i wr => ∃ k : Nat, k ≤ ls.length ∧ i = .int .i64 k ∧ n = .int .i64 (dedup (ls.take k)).length ∧ SetIn w wr w.heap.size 32 (dedup ls)) (fun _ i _ => ls.length - (intOf i).toNat)
      case atStart => exact ⟨0, by omega, rfl, rfl, hsk⟩
      case round =>
        obtain ⟨k, hk, rfl, rfl, hsk2⟩ := hrel
        clear hsk
        have hdl := dedup_le (ls.take k)
        rw [List.length_take] at hdl
        by_cases hlt : k < ls.length
        · have hc := Hc.out k hlt
          obtain ⟨e0, e1⟩ := hc
          have Hfirst := Lib.hid (dedup_at ls k hlt)
          have Hstep := Lib.hid (dedup_step ls k hlt)
          have hkd := hasKey_dedup (ls.take k) (ls.getD k (0, 0)).1
          have HD := Lib.hid hkd
          clear hkd
          generalize hkey : (ls.getD k (0, 0)).1 = key at *
          generalize hval : (ls.getD k (0, 0)).2 = val at *
          have Hkey := Lib.hid hkey; have Hval := Lib.hid hval; clear hkey hval
          go_wp2
          obtain ⟨wo, rfl⟩ : ∃ wo : World, wo = wr := ⟨_, rfl⟩
          go_loopw [9, 10] (fun f j wr => ∃ (m : Nat) (fb : Bool), m ≤ k ∧ j = .int .i64 m ∧ f = .bool fb ∧ fb = !hasKey (ls.take m) key ∧ SetIn w wr w.heap.size 32 (dedup ls)) (fun _ j _ => k - (intOf j).toNat)
          case atStart => exact ⟨0, true, by omega, rfl, rfl, rfl, hsk2⟩
          case round =>
            obtain ⟨m, fb, hm, rfl, rfl, hfb, hsk3⟩ := hrel
            clear hsk2
            have Hfb := Lib.hid hfb; clear hfb
            by_cases hmk : m < k
            · have hmc := Hc.out m (by omega)
              obtain ⟨g0, g1⟩ := hmc
              have Hts := Lib.hid (hasKey_take_succ ls m (by omega) key)
              generalize (ls.getD m (0, 0)).1 = mkey at *
              have d0 := hsk3.kept.cell g0 (fun f => f)
              have d1 := hsk3.kept.cell e0 (fun f => f)
              cases fb
              · go_wp2
                go_quiet (fail)
                go_wp2
                go_roundw
                case rel => exact ⟨m + 1, false, by omega, by go_num, rfl, by rw [Hts.out]; exact bl1 Hfb.out, hsk3.keep ((Keeps.refl _ _).drewN _)⟩
                case measure => simp [intOf]; omega
              · go_wp2
                go_quiet (fail)
                go_wp2
                go_roundw
                case rel => exact ⟨m + 1, mkey != key, by omega, by go_num, rfl, by rw [Hts.out]; exact bl2 Hfb.out, hsk3.keep ((Keeps.refl _ _).drewN _)⟩
                case measure => simp [intOf]; omega
            · obtain rfl : m = k := by omega
              cases fb
              · have h1 : hasKey (ls.take m) key = true := by simpa using Hfb.out.symm
                have h2 : (dedup (ls.take (m + 1))).length = (dedup (ls.take m)).length := by
                  have := Hstep.out; rw [HD.out, if_pos h1] at this; rw [this]
                have H2 := Lib.hid h2
                clear h1 h2
                go_wp2
                go_roundw
                case rel => exact ⟨m + 1, by omega, by go_num, by rw [H2.out], hsk3⟩
                case measure => simp [intOf]; omega
              · have h1 : hasKey (ls.take m) key = false := by simpa using Hfb.out.symm
                have h2 : (dedup (ls.take (m + 1))).length = (dedup (ls.take m)).length + 1 := by
                  have := Hstep.out; rw [HD.out, if_neg (by rw [h1]; decide)] at this; rw [this]; simp
                have H2 := Lib.hid h2
                have hf := Hfirst.out h1
                have hfl := hf.1
                have hf1 : ((dedup ls).getD (dedup (ls.take m)).length (0, 0)).1 = key := by rw [hf.2]; exact Hkey.out
                have hf2 : ((dedup ls).getD (dedup (ls.take m)).length (0, 0)).2 = val := by rw [hf.2]; exact Hval.out
                have F1 := Lib.hid hf1; have F2 := Lib.hid hf2
                clear h1 h2 hf hf1 hf2
                have d0 := hsk3.kept.cell e0 (fun f => f)
                have d1 := hsk3.kept.cell e1 (fun f => f)
                go_wp2
                go_region_held3 (fun w' => w'.cell? ⟨b, off + m * 2, none⟩ = some (.int .i64 key) ∧ w'.cell? ⟨b, off + m * 2 + 1, none⟩ = some (.int .i64 val)) (first | exact ⟨d0, d1⟩ | exact ⟨hs1.kept.cell e0 (fun f => f), hs1.kept.cell e1 (fun f => f)⟩)
                  (first
                    | (go_at_call 32; refine (rat_in' w w.heap.size 32 (dedup ls) (dedup (ls.take m)).length _ hsk3.drew hfl).mono ?_; rw [F1.out, F2.out]; rintro e w1 ⟨rfl, hs1⟩))
                go_wp2
                go_roundw
                case rel => exact ⟨m + 1, by omega, by go_num, by rw [H2.out]; go_num, hs1⟩
                case measure => simp [intOf]; omega
        · obtain rfl : k = ls.length := by omega
          rw [List.take_length]
          go_wp2_with (first | (go_at_call 29; refine (told13_any _).mono ?_; rintro e w1 ⟨rfl, hk1⟩) | (go_at_call 33; refine (rlen_in w w.heap.size 32 (dedup ls) _ (hsk2.keep hk1)).mono ?_; rintro e w2 ⟨rfl, rfl⟩))
          go_ret
          exact ⟨rfl, hsk2.kept.trans hk1⟩

theorem readsFirst_walk (w : World) (v0 : Value) (l0 : List (Int × Int)) (h0 : InW w v0 l0) (_f0 : ∀ k, k < l0.length → (Lit.int .i64 (l0.getD k (0, 0)).1).wf = true ∧ (Lit.int .i64 (l0.getD k (0, 0)).2).wf = true) (a1 : Int) (_w1 : (Lit.int .i64 a1).wf = true) :
    Calls Try.prog 6 #[v0, .int .i64 a1] w fun e w' => e = .returned (.bool true) ∧ Keeps NoS w w' := by
  by_cases h1 : l0.length < 1
  · obtain ⟨p, cap, rfl, hm, _⟩ := h0
    have hz : l0.length = 0 := by omega
    rw [hz]
    clear hz h1
    go_enter Try.func6, Try.ntmps6
    go_wp2_with (go_at_call 29; refine (told13_any _).mono ?_; rintro e w1 ⟨rfl, hk1⟩)
    go_ret
    exact ⟨rfl, hk1⟩
  · by_cases h2 : l0.length ≤ 30
    · exact readsFirst_main v0 l0 a1 w h0 (by omega) h2
    · obtain ⟨p, cap, rfl, hm, _⟩ := h0
      go_enter Try.func6, Try.ntmps6
      go_wp2_with (go_at_call 29; refine (told13_any _).mono ?_; rintro e w1 ⟨rfl, hk1⟩)
      go_ret
      exact ⟨rfl, hk1⟩
end Go.Proofs.Ytldleacoajlinaa
