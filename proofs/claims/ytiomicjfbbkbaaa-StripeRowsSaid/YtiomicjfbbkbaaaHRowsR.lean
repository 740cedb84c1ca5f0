/- Rows of stripes: the walk of the document's own Rows. -/
import Derived.Test.YtiomicjfbbkbaaaHRowsW
namespace Go.Proofs.Ytiomicjfbbkbaaa
open Go.RowKit
theorem rowsZ_no (m : MapS) (L : List Int) (n : Nat) (h : mayB m = false) : rowsZ m L n = [] := by
  induction n with
  | zero => rfl
  | succ n ih =>
    have : hitB m L (n : Int) = false := by
      unfold hitB
      rw [List.any_eq_false]
      intro a _ he
      have hb := @hash_lt m a
      have e : hashV m a = (n : Int) := by simpa using he
      have := (hb.2.2 (by omega)).2
      rw [h] at this; cases this
    rw [rowsZ_succ, ih, this]; rfl
theorem rowsZ_more (m : MapS) (L : List Int) (k n : Nat) (h : (m.s : Int) ≤ k) : rowsZ m L (k + n) = rowsZ m L k := by
  induction n with
  | zero => rfl
  | succ n ih =>
    have : hitB m L ((k + n : Nat) : Int) = false := by
      unfold hitB
      rw [List.any_eq_false]
      intro a _ he
      have hb := @hash_lt m a
      have e : hashV m a = ((k + n : Nat) : Int) := by simpa using he
      have := (hb.2.2 (by omega)).1
      omega
    rw [← Nat.add_assoc, rowsZ_succ, ih, this]; simp
theorem hitB_all {m : MapS} {L : List Int} {r : Int} (h : hitB m (L.take L.length) r = false) : hitB m L r = false := by rwa [List.take_length] at h
theorem hitB_some {m : MapS} {L : List Int} {r : Int} {j : Nat} (hj : j < L.length) (h : hashV m (L.getD j 0) = r) : hitB m L r = true := by
  unfold hitB
  rw [List.any_eq_true]
  exact ⟨L.getD j 0, by rw [getD_at L 0 j hj]; exact List.getElem_mem hj, by simpa using h⟩
set_option maxHeartbeats 2000000 in
set_option maxRecDepth 100000 in
theorem rrows_any (m : MapS) (v : Value) (L : List Int) (w : World) (hv : InI w v L) : Calls Try.prog 11 #[mapV m, v] w fun e w' => ∃ u, e = .returned u ∧ RowI w' u (rowsZ m L 16) ∧ Keeps NoS w w' := by
  obtain ⟨p, cap, rfl, hn, hd, _⟩ := hv
  have HD := Lib.hid hd
  clear hd
  obtain ⟨i0, hi, hz0, hz1, hz2⟩ := info_parts infoInt
  obtain ⟨ms, ml, mt, mc, md⟩ := m
  have hm0 := mapAt_new w ms ml mt mc md 32
  have hk0 := ((Keeps.refl NoS w).alloc (.cells #[.int .i64 ms, .int .i64 ml, .int .i64 mt, .int .i64 mc, .int .i64 md] 32))
  cases hmb : mayB ⟨ms, ml, mt, mc, md⟩ with
  | false =>
    have hz := rowsZ_no ⟨ms, ml, mt, mc, md⟩ L 16 hmb
    rw [hz]
    have HMB := Lib.hid hmb
    obtain ⟨m0, m1, m2, m3, m4⟩ := hm0
    clear hmb hz HD hi hz0 hz1 hz2
    unfold mapV; dsimp only
    by_cases h0 : 0 < ms
    · go_enter Try.func11, Try.ntmps11
      go_wp2_with fail
      go_loopw [5, 6] (fun u i wr => u = .slice none 0 0 ∧ i = .int .i64 0 ∧ wr = w.alloc (.cells #[.int .i64 ms, .int .i64 ml, .int .i64 mt, .int .i64 mc, .int .i64 md] 32)) (fun _ _ _ => 0)
      case atStart => exact ⟨rfl, rfl, rfl⟩
      case round =>
        obtain ⟨rfl, rfl, rfl⟩ := hrel
        go_wp2_with (go_at_call 29; refine (rmay_any ⟨ms, ml, mt, mc, md⟩ _).mono ?_; rw [HMB.out]; rintro e w1 ⟨rfl, hk1⟩)
        go_ret
        exact ⟨_, rfl, .inl ⟨rfl, rfl⟩, hk0.trans hk1⟩
    · go_enter Try.func11, Try.ntmps11
      go_wp2_with fail
      go_loopw [5, 6] (fun u i wr => u = .slice none 0 0 ∧ i = .int .i64 0 ∧ wr = w.alloc (.cells #[.int .i64 ms, .int .i64 ml, .int .i64 mt, .int .i64 mc, .int .i64 md] 32)) (fun _ _ _ => 0)
      case atStart => exact ⟨rfl, rfl, rfl⟩
      case round =>
        obtain ⟨rfl, rfl, rfl⟩ := hrel
        go_wp2_with fail
        go_ret
        exact ⟨_, rfl, .inl ⟨rfl, rfl⟩, hk0⟩
  | true =>
    have HMB := Lib.hid hmb
    obtain ⟨s1, s2⟩ : 1 ≤ ms ∧ ms ≤ 16 := ⟨(may_of hmb).s1, (may_of hmb).s2⟩
    obtain ⟨S, rfl⟩ : ∃ S : Nat, ms = (S : Int) := ⟨ms.toNat, by omega⟩
    have hmore : rowsZ ⟨S, ml, mt, mc, md⟩ L 16 = rowsZ ⟨S, ml, mt, mc, md⟩ L S := by
      have := rowsZ_more ⟨S, ml, mt, mc, md⟩ L S (16 - S) (by simp)
      rwa [show S + (16 - S) = 16 by omega] at this
    rw [hmore]
    have HM := Lib.hid hm0; have HK := Lib.hid hk0
    clear hmb hmore hm0 hk0
    unfold mapV; dsimp only
    go_enter Try.func11, Try.ntmps11
    go_wp2_with fail
    go_loopw [5, 6] (fun u i wr => ∃ k : Nat, k ≤ S ∧ i = .int .i64 k ∧ wr.ownsRow 0 3 1 u (rowsZ ⟨S, ml, mt, mc, md⟩ L k).length (vals (rowsZ ⟨S, ml, mt, mc, md⟩ L k)) ∧ (∀ g, u.ownBlock = some g → w.heap.size < g) ∧ MapAt wr w.heap.size S ml mt mc md ∧ Keeps NoS w wr ∧ w.heap.size < wr.heap.size) (fun _ i _ => S - (intOf i).toNat)
    case atStart => exact ⟨0, by omega, rfl, World.ownsRow_nil _ _ _ _, by simp [Value.ownBlock], HM.out, HK.out, by simp⟩
    case round =>
      obtain ⟨k, hk, rfl, hown, hnew, hmp, hkp, hsz⟩ := hrel
      have HMP := Lib.hid hmp; have HKP := Lib.hid hkp; have HOWN := Lib.hid hown; have HNEW := Lib.hid hnew
      obtain ⟨m0, m1, m2, m3, m4⟩ := hmp
      clear hkp hown hnew
      by_cases hlt : k < S
      · go_wp2_with (go_at_call 29; refine (rmay_any ⟨S, ml, mt, mc, md⟩ _).mono ?_; rw [HMB.out]; rintro e w1 ⟨rfl, hk1⟩)
        have hkw := Lib.hid hk1
        have hsz1 := hk1.size
        clear m0 m1 m2 m3 m4 hk1
        go_loopw [5, 7] (fun uu i wq => uu = u5 ∧ ∃ j : Nat, j ≤ L.length ∧ i = .int .i64 j ∧ hitB ⟨S, ml, mt, mc, md⟩ (L.take j) (k : Int) = false ∧ Keeps NoS w1 wq) (fun _ i _ => L.length - (intOf i).toNat)
        case atStart => exact ⟨rfl, 0, by omega, rfl, rfl, Keeps.refl _ _⟩
        case round =>
          obtain ⟨rfl, j, hj, rfl, hno, hkq⟩ := hrel
          have hkq2 := hkw.out.trans hkq
          have hmq := HMP.out.keep hkq2
          have HKQ := Lib.hid hkq2; have HNO := Lib.hid hno
          have hszq := hkq2.size
          have HQ1 := Lib.hid hkq
          clear hkq hkq2 hno
          by_cases hjl : j < L.length
          · obtain ⟨b, off, rfl, hc⟩ := HD.out (fun e => by rw [e] at hjl; exact absurd hjl (by simp))
            obtain ⟨x, hx⟩ : ∃ x, L.getD j 0 = x := ⟨_, rfl⟩
            have c0 := (HKP.out.trans HKQ.out).cell (hc j hjl) (fun f => f)
            rw [hx] at c0
            obtain ⟨h, hh⟩ : ∃ h, hashV ⟨S, ml, mt, mc, md⟩ x = h := ⟨_, rfl⟩
            have HH := Lib.hid hh; have HX := Lib.hid hx; have HMQ := Lib.hid hmq
            obtain ⟨m0, m1, m2, m3, m4⟩ := hmq
            clear hh hc hx
            by_cases heq : h = (k : Int)
            · subst heq
              have hhit := hitB_some (m := ⟨S, ml, mt, mc, md⟩) (r := (k : Int)) hjl (by rw [HX.out]; exact HH.out)
              have hsucc := rowsZ_succ ⟨S, ml, mt, mc, md⟩ L k
              rw [hhit] at hsucc
              have HS := Lib.hid hsucc
              have hlen := rowsZ_len ⟨S, ml, mt, mc, md⟩ L k
              have hown := HKQ.out.drew.owns HOWN.out (fun g _ f => f)
              generalize hR : rowsZ ⟨S, ml, mt, mc, md⟩ L k = R at hown hlen HS
              clear hsucc hhit
              go_wp2_with fail
              go_region_held3 (fun w' => (w'.cell? ⟨w.heap.size, 0, none⟩ = some (.int .i64 S) ∧ w'.cell? ⟨w.heap.size, 1, none⟩ = some (.int .i64 ml) ∧ w'.cell? ⟨w.heap.size, 2, none⟩ = some (.int .i64 mt) ∧ w'.cell? ⟨w.heap.size, 3, none⟩ = some (.int .i64 mc) ∧ w'.cell? ⟨w.heap.size, 4, none⟩ = some (.int .i64 md)) ∧ w'.cell? ⟨b, off + j, none⟩ = some (.int .i64 x)) (first | exact ⟨⟨m0, m1, m2, m3, m4⟩, c0⟩ | exact ⟨hm2, c2⟩) (first
                | (go_at_call 30; refine (rhash_lit S ml mt mc md x (k : Int) HH.out _).mono ?_; rintro e w2 ⟨rfl, hk2⟩; have hm2 := (HMQ.out.drew).keep hk2; have c2 := hk2.cell (p := ⟨b, off + j, none⟩) (v := .int .i64 x) c0 (fun f => f)))
              have hown2 := hk2.owns hown (fun g _ f => f)
              have d2 : ∀ u ∈ [Value.int .i64 (k : Int)], u.oneCell' = true := by simp [Value.oneCell']
              have b3 : R.length + 1 ≤ maxLen := by unfold maxLen; omega
              have hkk := Lib.hid ((HKQ.out.drew).trans hk2)
              have hszw := hkk.out.size
              clear hm2 c2 hk2 hown m0 m1 m2 m3 m4 c0
              go_wp2_with (at_builtin; refine wpList_append_fp _ rfl _ _ 23 rfl 3 i0 (.int .i64 0) 1 8 Try.underlying23 hi hz0 hz1 hz2 rfl (by decide) _ R.length (vals R) rfl (hown2.alloc _) ⟨_, 0, none⟩ 1 1 [.int .i64 (k : Int)] rfl rfl (cells_new _ _ _) d2 b3 (by omega) ?_; intro u' w3 hown' hgr hob)
              go_roundw
              case rel =>
                have e1 : rowsZ ⟨S, ml, mt, mc, md⟩ L (k + 1) = R ++ [(k : Int)] := by rw [HS.out]; rfl
                refine ⟨k + 1, by omega, by go_num, ?_, fun g hg => (hob g hg).elim (HNEW.out g) (fun h => by simp at h; omega), ?_, ((HKP.out.trans hkk.out).alloc _).grown hgr (fun g hg hl => by have := HNEW.out g hg; omega), by have := hgr.size; simp at this; omega⟩
                · rw [e1, List.length_append]
                  simpa [vals] using hown'
                · exact (HMP.out.keep hkk.out).keepS (((Keeps.refl (fun i => u5.ownBlock = some i) _).alloc _).grown hgr (fun g hg _ => hg)) (fun e => by have := HNEW.out _ e; omega)
              case measure => simp [intOf]; omega
            · have hbe : (h == (k : Int)) = false := beq_eq_false_iff_ne.2 heq
              go_wp2_with fail
              go_region_held3 (fun w' => (w'.cell? ⟨w.heap.size, 0, none⟩ = some (.int .i64 S) ∧ w'.cell? ⟨w.heap.size, 1, none⟩ = some (.int .i64 ml) ∧ w'.cell? ⟨w.heap.size, 2, none⟩ = some (.int .i64 mt) ∧ w'.cell? ⟨w.heap.size, 3, none⟩ = some (.int .i64 mc) ∧ w'.cell? ⟨w.heap.size, 4, none⟩ = some (.int .i64 md)) ∧ w'.cell? ⟨b, off + j, none⟩ = some (.int .i64 x)) (first | exact ⟨⟨m0, m1, m2, m3, m4⟩, c0⟩ | exact ⟨hm2, c2⟩) (first
                | (go_at_call 30; refine (rhash_lit S ml mt mc md x h HH.out _).mono ?_; rintro e w2 ⟨rfl, hk2⟩; have hm2 := (HMQ.out.drew).keep hk2; have c2 := hk2.cell (p := ⟨b, off + j, none⟩) (v := .int .i64 x) c0 (fun f => f)))
              have hnx := hitB_succ ⟨S, ml, mt, mc, md⟩ L j hjl (k : Int)
              rw [HNO.out, HX.out, HH.out, hbe] at hnx
              have HNX := Lib.hid hnx
              have hkk := Lib.hid (((Keeps.refl NoS _).drew).trans hk2)
              clear hm2 c2 hk2 m0 m1 m2 m3 m4 c0 hnx
              go_wp2_with fail
              go_roundw
              case rel => exact ⟨rfl, j + 1, by omega, by go_num, HNX.out, HQ1.out.trans hkk.out⟩
              case measure => simp [intOf]; omega
          · have hje : j = L.length := by omega
            subst hje
            have hnx := hitB_all HNO.out
            have hsucc := rowsZ_succ ⟨S, ml, mt, mc, md⟩ L k
            rw [hnx] at hsucc
            have HS := Lib.hid hsucc
            clear hmq hnx hsucc
            go_wp2_with fail
            go_roundw
            case rel => exact ⟨k + 1, by omega, by go_num, by rw [HS.out]; simpa using HKQ.out.owns HOWN.out (fun g _ f => f), HNEW.out, HMP.out.keep HKQ.out, HKP.out.trans HKQ.out, by omega⟩
            case measure => simp [intOf]; omega
      · have hke : k = S := by omega
        subst hke
        go_wp2_with (go_at_call 29; refine (rmay_any ⟨k, ml, mt, mc, md⟩ _).mono ?_; rw [HMB.out]; rintro e w1 ⟨rfl, hk1⟩)
        go_ret
        exact ⟨_, rfl, owns_row HOWN.out, HKP.out⟩
end Go.Proofs.Ytiomicjfbbkbaaa
