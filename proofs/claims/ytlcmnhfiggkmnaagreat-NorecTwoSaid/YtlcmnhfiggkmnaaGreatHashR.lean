/- The hash of an address, the document's. -/
import Derived.Test.YtlcmnhfiggkmnaaGreatHash1
import Derived.Test.YtlcmnhfiggkmnaaGreatPlaceFind
namespace Go.Proofs.YtlcmnhfiggkmnaaGreat
open Go.RowKit
set_option maxRecDepth 100000 in
theorem rhash_any (m : MapS) (a : Int) (w : World) : Calls Tryz.prog 85 #[mapV m, .int .i64 a] w fun e w' => e = .returned (.int .i64 (hashV m a)) ∧ Keeps NoS w w' := by
  cases hm : mayB m with
  | false =>
    have hz : sizeP m = 0 := by simp [sizeP, hm]
    have hv : hashV m a = -1 := by rw [hashV, if_neg (by omega)]
    rw [hv]
    have HM := Lib.hid hm
    clear hm hz hv
    obtain ⟨ms, ml, mt, mc, md⟩ := m
    unfold mapV; dsimp only
    go_enter Tryz.func85, Tryz.ntmps85
    go_wp2_with (go_at_call 77; refine (rmay_any ⟨ms, ml, mt, mc, md⟩ _).mono ?_; rw [HM.out]; rintro e w1 ⟨rfl, hk1⟩)
    go_ret
    exact ⟨rfl, ((Keeps.refl NoS w).alloc _).trans hk1⟩
  | true =>
    obtain ⟨n, hn⟩ : ∃ n, sizeP m = n := ⟨_, rfl⟩
    have HM := Lib.hid hm; have HN := Lib.hid hn
    have hmm := may_of hm
    have s1 := hmm.s1; have s2 := hmm.s2
    by_cases h0 : a < 0
    · have hv : hashV m a = -1 := by rw [hashV, if_neg (by omega)]
      rw [hv]
      clear hm hn hv hmm
      obtain ⟨ms, ml, mt, mc, md⟩ := m
      unfold mapV; dsimp only
      go_enter Tryz.func85, Tryz.ntmps85
      go_wp2_with (go_at_call 77; refine (rmay_any ⟨ms, ml, mt, mc, md⟩ _).mono ?_; rw [HM.out]; rintro e w1 ⟨rfl, hk1⟩)
      go_ret
      exact ⟨rfl, ((Keeps.refl NoS w).alloc _).trans hk1⟩
    · by_cases h1 : n ≤ a
      · have hv : hashV m a = -1 := by rw [hashV, if_neg (by omega)]
        rw [hv]
        clear hm hn hv hmm
        obtain ⟨ms, ml, mt, mc, md⟩ := m
        unfold mapV; dsimp only
        go_enter Tryz.func85, Tryz.ntmps85
        go_wp2_with (first
          | (go_at_call 77; refine (rmay_any ⟨ms, ml, mt, mc, md⟩ _).mono ?_; rw [HM.out]; rintro e w1 ⟨rfl, hk1⟩; obtain ⟨b0, b1, b2, b3, b4, bz⟩ := box_cells hk1)
          | (go_at_call 27; refine (rsize_lit ms ml mt mc md n HN.out _).mono ?_; rintro e w2 ⟨rfl, hk2⟩))
        go_ret
        exact ⟨rfl, (((Keeps.refl NoS w).alloc _).trans hk1).trans hk2⟩
      · obtain ⟨e, x0, x1, _⟩ := hashV_bd (m := m) (a := a) (by omega) (by omega)
        have hx : bits .xor .i64 a (a / 16) = xorA a := rfl
        have HX := Lib.hid hx
        rw [e]
        clear hm hn hmm e hx
        obtain ⟨ms, ml, mt, mc, md⟩ := m
        dsimp only at s1 s2
        unfold mapV; dsimp only
        generalize xorA a = x at *
        have hx := HX.out
        go_enter Tryz.func85, Tryz.ntmps85
        go_wp2_with (first
          | (go_at_call 77; refine (rmay_any ⟨ms, ml, mt, mc, md⟩ _).mono ?_; rw [HM.out]; rintro e w1 ⟨rfl, hk1⟩; obtain ⟨b0, b1, b2, b3, b4, bz⟩ := box_cells hk1)
          | (go_at_call 27; refine (rsize_lit ms ml mt mc md n HN.out _).mono ?_; rintro e w2 ⟨rfl, hk2⟩; have c0 := hk2.cell b0 (fun f => f)))
        go_ret
        exact ⟨rfl, (((Keeps.refl NoS w).alloc _).trans hk1).trans hk2⟩
theorem rhash_lit (ms ml mt mc md a : Int) (v : Int) (h : hashV ⟨ms, ml, mt, mc, md⟩ a = v) (w : World) : Calls Tryz.prog 85 #[.agg #[.int .i64 ms, .int .i64 ml, .int .i64 mt, .int .i64 mc, .int .i64 md], .int .i64 a] w fun e w' => e = .returned (.int .i64 v) ∧ Keeps NoS w w' := by
  subst h; exact rhash_any ⟨ms, ml, mt, mc, md⟩ a w
end Go.Proofs.YtlcmnhfiggkmnaaGreat
