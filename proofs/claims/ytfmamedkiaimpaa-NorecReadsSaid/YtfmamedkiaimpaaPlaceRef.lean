/- The document's own places (syncoperef2), each function with what it computes. -/
import Derived.Test.YtfmamedkiaimpaaRows
import Derived.Test.YtfmamedkiaimpaaBase
import Derived.Test.YtfmamedkiaimpaaMapIdx
import Derived.Test.YtfmamedkiaimpaaPlace
import Derived.WalkKit
import Derived.WalkSpells
import Derived.Outline
import Derived.BigQuiet
import Derived.Deep.QuietTactic
namespace Go.Proofs.Ytfmamedkiaimpaa
open Go.RowKit

theorem rmay_any (m : MapS) (w : World) : Calls Try.prog 81 #[mapV m] w fun e w' => e = .returned (.bool (mayB m)) ∧ Keeps NoS w w' := by
  obtain ⟨s, l, t, c, d⟩ := m
  unfold mapV
  dsimp only
  go_enter Try.func81, Try.ntmps81
  go_wp2
  all_goals
    go_ret
    refine ⟨congrArg (fun b => Ending.returned (.bool b)) ?_, (Keeps.refl _ _).alloc _⟩
    cases hb : mayB ⟨s, l, t, c, d⟩ with
    | true =>
      have hM := may_of hb
      obtain ⟨k1, k2, k3, k4, k5, k6, k7, k8, k9, k10⟩ := hM
      dsimp only at *
      first | omega | (simp [*]; done) | (simp; omega)
    | false =>
      have hN : ¬ May ⟨s, l, t, c, d⟩ := fun h => absurd (of_may h) (by rw [hb]; decide)
      have hN2 : ¬ (1 ≤ s ∧ s ≤ 16 ∧ 0 ≤ l ∧ l ≤ 4 ∧ 1 ≤ t ∧ t ≤ 4 ∧ 0 ≤ c ∧ c ≤ 4 ∧ 0 ≤ d ∧ d ≤ 32) := fun h => hN ⟨h.1, h.2.1, h.2.2.1, h.2.2.2.1, h.2.2.2.2.1, h.2.2.2.2.2.1, h.2.2.2.2.2.2.1, h.2.2.2.2.2.2.2.1, h.2.2.2.2.2.2.2.2.1, h.2.2.2.2.2.2.2.2.2⟩
      first | rfl | omega | (simp [*]; done) | (simp; omega)

def flatP (l : List Pl) : List Value := l.flatMap fun x => [.int .i64 x.1, .int .i64 x.2.1, .int .i64 x.2.2.1, .int .i64 x.2.2.2]
theorem flatP_app (a b : List Pl) : flatP (a ++ b) = flatP a ++ flatP b := by simp [flatP]
theorem flatP_len (l : List Pl) : (flatP l).length = l.length * 4 := by
  induction l with
  | nil => rfl
  | cons x l ih => simp [flatP] at ih ⊢; omega
theorem flatP_at (l : List Pl) (k : Nat) (h : k < l.length) : (flatP l)[k * 4]? = some (.int .i64 (l.getD k (0, 0, 0, 0)).1) ∧ (flatP l)[k * 4 + 1]? = some (.int .i64 (l.getD k (0, 0, 0, 0)).2.1) ∧ (flatP l)[k * 4 + 2]? = some (.int .i64 (l.getD k (0, 0, 0, 0)).2.2.1) ∧ (flatP l)[k * 4 + 3]? = some (.int .i64 (l.getD k (0, 0, 0, 0)).2.2.2) := by
  induction l generalizing k with
  | nil => simp at h
  | cons x l ih =>
    cases k with
    | zero => simp [flatP]
    | succ k =>
      have := ih k (by simpa using h)
      have e : ∀ j, (flatP (x :: l))[(k + 1) * 4 + j]? = (flatP l)[k * 4 + j]? := fun j => by
        rw [show (k + 1) * 4 + j = (k * 4 + j) + 1 + 1 + 1 + 1 by omega]; rfl
      have e0 := e 0
      rw [Nat.add_zero, Nat.add_zero] at e0
      rw [e0, e 1, e 2, e 3]
      simpa using this
theorem infoPlace : (Try.prog.info? 114).map (fun i => (i.zero, i.size, i.bytes)) = some (some (.agg #[.int .i64 0, .int .i64 0, .int .i64 0, .int .i64 0]), 4, 32) := by kernel_rfl
theorem owns_new (w : World) (e : TypeId) (size n : Nat) (cs : List Value) (h : cs.length = n * size) (hn : n ≤ maxLen) : (w.alloc (.cells cs.toArray e)).ownsRow 0 e size (.slice (some ⟨w.heap.size, 0, none⟩) n n) n cs :=
  ⟨h, .inr ⟨w.heap.size, n, cs.toArray, rfl, Nat.zero_le _, heap_alloc_new w _, Nat.le_refl _, hn, by simp [h], by rw [List.take_of_length_le (by simp [h])]⟩⟩
/-- the list of places, in the making -/
structure PlS (w wr : World) (S L T C D : Nat) (v : Value) (n : Nat) (l : List Pl) : Prop where
  bx : wr.heap[w.heap.size]? = some (.cells #[.int .i64 S, .int .i64 L, .int .i64 T, .int .i64 C, .int .i64 D] 68 (0, 0))
  ow : wr.ownsRow 0 114 4 v n (flatP l)
  fr : ∀ g, v.ownBlock = some g → w.heap.size < g
  kp : Keeps NoS w wr
theorem PlS.cast {w wr : World} {S L T C D : Nat} {v : Value} {n n' : Nat} {l l' : List Pl} (h : PlS w wr S L T C D v n l) (hn : n = n') (hl : l = l') : PlS w wr S L T C D v n' l' := by subst hn; subst hl; exact h
theorem PlS.app {w wr w3 : World} {S L T C D : Nat} {v v' : Value} {n k : Nat} {l l' : List Pl} {news : List Value} {o : Obj} (h : PlS w wr S L T C D v n l) (hown : w3.ownsRow 0 114 4 v' (n + k) (flatP l ++ news)) (hgr : (wr.alloc o).grownBy w3 v.ownBlock)
    (hob : ∀ g, v'.ownBlock = some g → v.ownBlock = some g ∨ g = (wr.alloc o).heap.size) (hl : flatP l' = news) : PlS w w3 S L T C D v' (n + k) (l ++ l') := by
  subst hl
  have hlt := blk_lt h.bx
  refine ⟨?_, by rw [flatP_app]; exact hown, fun g hg => ?_, (h.kp.alloc o).grown hgr (fun k hk hlt => by have := h.fr k hk; omega)⟩
  · rw [hgr.block _ (by simp; omega) (fun e => by have := h.fr _ e.symm; omega), Below.heap_alloc _ _ _ hlt]; exact h.bx
  · rcases hob g hg with e | e
    · exact h.fr g e
    · simp at e; omega
theorem PlS.box {w wr : World} {S L T C D : Nat} {v : Value} {n : Nat} {l : List Pl} (h : PlS w wr S L T C D v n l) : wr.cell? ⟨w.heap.size, 0, none⟩ = some (.int .i64 S) ∧ wr.cell? ⟨w.heap.size, 1, none⟩ = some (.int .i64 L) ∧ wr.cell? ⟨w.heap.size, 2, none⟩ = some (.int .i64 T) ∧ wr.cell? ⟨w.heap.size, 3, none⟩ = some (.int .i64 C) ∧ wr.cell? ⟨w.heap.size, 4, none⟩ = some (.int .i64 D) := by
  refine ⟨?_, ?_, ?_, ?_, ?_⟩ <;> rw [blk_cell h.bx] <;> rfl
theorem blkS_succ (n : Nat) : blkS (n + 1) = blkS n ++ [(3, (n : Int), 0, 0)] := map_succ _ _
theorem rowL_succ (i n : Nat) : rowL i (n + 1) = rowL i n ++ [(4, (i : Int), 0, (n : Int))] := map_succ _ _
theorem blkL_succ (n : Nat) : blkL (n + 1) = blkL n ++ rowL n 6 := flat_succ _ _
theorem blkT_succ (n : Nat) : blkT (n + 1) = blkT n ++ [(5, (n : Int), 0, 0), (5, (n : Int), 0, 1)] := flat_succ _ _
theorem rowN_succ (i n : Nat) : rowN i (n + 1) = rowN i n ++ [(6, (i : Int), (n : Int), 0), (6, (i : Int), (n : Int), 1)] := flat_succ _ _
theorem blkN_succ (L n : Nat) : blkN L (n + 1) = blkN L n ++ rowN n L := flat_succ _ _
theorem blkF_succ (n : Nat) : blkF (n + 1) = blkF n ++ [(7, (n : Int), 0, 0)] := map_succ _ _
theorem rowC_succ (i n : Nat) : rowC i (n + 1) = rowC i n ++ [(8, (i : Int), 0, (n : Int))] := map_succ _ _
theorem blkC_succ (n : Nat) : blkC (n + 1) = blkC n ++ rowC n 6 := flat_succ _ _
theorem blkD_succ (n : Nat) : blkD (n + 1) = blkD n ++ [(9, (n : Int), 0, 0), (10, (n : Int), 0, 0)] := flat_succ _ _
theorem placesl_no (m : MapS) (w : World) (hm : mayB m = false) : Calls Try.prog 63 #[mapV m] w fun e w' => e = .returned (.slice none 0 0) ∧ Keeps NoS w w' := by
  have HM := Lib.hid hm
  clear hm
  obtain ⟨s, l, t, c, d⟩ := m
  unfold mapV
  dsimp only
  go_enter Try.func63, Try.ntmps63
  go_wp2_with (go_at_call 81; refine (rmay_any ⟨s, l, t, c, d⟩ _).mono ?_; rw [HM.out]; rintro e w1 ⟨rfl, hk1⟩)
  go_ret
  exact ⟨rfl, ((Keeps.refl _ _).alloc _).trans hk1⟩
set_option maxHeartbeats 4000000 in
set_option maxRecDepth 100000 in
theorem placesl_yes (S L T C D : Nat) (w : World) (hm : May ⟨S, L, T, C, D⟩) : Calls Try.prog 63 #[mapV ⟨S, L, T, C, D⟩] w fun e w' => ∃ v n, e = .returned v ∧ w'.ownsRow 0 114 4 v n (flatP (places S L T C D)) ∧ (∀ g, v.ownBlock = some g → w.heap.size ≤ g) ∧ Keeps NoS w w' := by
  have HM := Lib.hid (of_may hm)
  have hTL : T * (L * 2) ≤ 32 := by
    have := Nat.mul_le_mul (show T ≤ 4 by have := hm.t2; simp only at this; omega) (show L * 2 ≤ 8 by have := hm.l2; simp only at this; omega)
    omega
  obtain ⟨h1, h2, h3, h4, h5, h6, h7, h8, h9, h10⟩ := hm
  dsimp only at h1 h2 h3 h4 h5 h6 h7 h8 h9 h10
  obtain ⟨i0, hi, hz0, hz1, hz2⟩ := info_parts infoPlace
  unfold mapV
  dsimp only
  go_enter Try.func63, Try.ntmps63
  go_wp2_with (go_at_call 81; refine (rmay_any ⟨S, L, T, C, D⟩ _).mono ?_; rw [HM.out]; rintro e w1 ⟨rfl, hk1⟩; obtain ⟨b0, b1, b2, b3, b4, bz⟩ := box_cells hk1; have hbx := hk1.blk (heap_alloc_new w _) (fun f => f))
  have h0 : PlS w (w1.alloc (.cells #[.int .i64 1, .int .i64 0, .int .i64 0, .int .i64 0, .int .i64 2, .int .i64 0, .int .i64 0, .int .i64 0] 114)) S L T C D (.slice (some ⟨w1.heap.size, 0, none⟩) 2 2) (2 + 0) (pre0 ++ blkS 0) :=
    ⟨by rw [Below.heap_alloc _ _ _ bz]; exact hbx, owns_new w1 114 4 2 [.int .i64 1, .int .i64 0, .int .i64 0, .int .i64 0, .int .i64 2, .int .i64 0, .int .i64 0, .int .i64 0] rfl (by unfold maxLen; omega), fun g hg => by simp [Value.ownBlock] at hg; omega, (((Keeps.refl NoS w).alloc _).trans hk1).alloc _⟩
  have H0 := Lib.hid h0
  clear h0 hbx b0 b1 b2 b3 b4 hk1 HM
  go_loopw [3, 4] (fun v i wr => ∃ k : Nat, k ≤ S ∧ i = .int .i64 k ∧ PlS w wr S L T C D v (2 + k) (pre0 ++ blkS k)) (fun _ i _ => S - (intOf i).toNat)
  case atStart => exact ⟨0, Nat.zero_le _, rfl, H0.out⟩
  case round =>
    obtain ⟨k, hk, rfl, hP⟩ := hrel
    obtain ⟨b0, b1, b2, b3, b4⟩ := hP.box
    by_cases hlt : k < S
    · go_wp2_with (at_builtin; refine wpList_append_fp _ rfl _ _ 94 rfl 114 i0 (.agg #[.int .i64 0, .int .i64 0, .int .i64 0, .int .i64 0]) 4 32 Try.underlying94 hi hz0 hz1 hz2 rfl (by decide) _ _ _ rfl (hP.ow.alloc _) ⟨_, 0, none⟩ 1 1 [.int .i64 3, .int .i64 k, .int .i64 0, .int .i64 0] rfl rfl (cells_new _ _ _) (by simp [Value.oneCell']) (by unfold maxLen; omega) (by omega) ?_; intro v1 w3 hown hgr hob; have hP1 := hP.app (l' := [(3, (k : Int), 0, 0)]) hown hgr hob rfl; clear hown hgr hob)
      go_roundw
      case rel => exact ⟨k + 1, by omega, by go_num, hP1.cast (by omega) (by rw [blkS_succ, List.append_assoc])⟩
      case measure => simp [intOf]; omega
    · have hke : k = S := by omega
      have hP2 := hP.cast (n' := 2 + S + 0) (l' := pre0 ++ blkS S ++ []) (by omega) (by rw [hke, List.append_nil])
      have HP := Lib.hid hP2
      clear hP hP2 hke
      go_wp2_with fail
      go_loopw [3, 5] (fun v i wr => ∃ k : Nat, k ≤ L ∧ i = .int .i64 k ∧ PlS w wr S L T C D v (2 + S + k * 6) (pre0 ++ blkS S ++ blkL k)) (fun _ i _ => L - (intOf i).toNat)
      case atStart => exact ⟨0, Nat.zero_le _, rfl, HP.out.cast (by simp) rfl⟩
      case round =>
        obtain ⟨a, ha, rfl, hA⟩ := hrel
        obtain ⟨b0, b1, b2, b3, b4⟩ := hA.box
        by_cases hla : a < L
        · have hA1 := hA.cast (n' := 2 + S + a * 6 + 0) (l' := pre0 ++ blkS S ++ blkL a ++ []) (by omega) (by rw [List.append_nil])
          have HA := Lib.hid hA1
          clear hA hA1
          go_wp2_with fail
          go_loopw [3, 6] (fun v i wr => ∃ k : Nat, k ≤ 6 ∧ i = .int .i64 k ∧ PlS w wr S L T C D v (2 + S + a * 6 + k) (pre0 ++ blkS S ++ blkL a ++ rowL a k)) (fun _ i _ => 6 - (intOf i).toNat)
          case atStart => exact ⟨0, Nat.zero_le _, rfl, HA.out⟩
          case round =>
            clear HA b0 b1 b2 b3 b4
            obtain ⟨k, hk, rfl, hP⟩ := hrel
            obtain ⟨b0, b1, b2, b3, b4⟩ := hP.box
            by_cases hlt : k < 6
            · go_wp2_with (at_builtin; refine wpList_append_fp _ rfl _ _ 94 rfl 114 i0 (.agg #[.int .i64 0, .int .i64 0, .int .i64 0, .int .i64 0]) 4 32 Try.underlying94 hi hz0 hz1 hz2 rfl (by decide) _ _ _ rfl (hP.ow.alloc _) ⟨_, 0, none⟩ 1 1 [.int .i64 4, .int .i64 a, .int .i64 0, .int .i64 k] rfl rfl (cells_new _ _ _) (by simp [Value.oneCell']) (by unfold maxLen; omega) (by omega) ?_; intro v1 w3 hown hgr hob; have hP1 := hP.app (l' := [(4, (a : Int), 0, (k : Int))]) hown hgr hob rfl; clear hown hgr hob)
              go_roundw
              case rel => exact ⟨k + 1, by omega, by go_num, hP1.cast (by omega) (by rw [rowL_succ, List.append_assoc])⟩
              case measure => simp [intOf]; omega
            · have hke : k = 6 := by omega
              have hP2 := hP.cast (n' := 2 + S + (a + 1) * 6) (l' := pre0 ++ blkS S ++ blkL (a + 1)) (by rw [hke]; simp only [Nat.add_mul]; omega) (by rw [hke, blkL_succ, List.append_assoc])
              have HP := Lib.hid hP2
              clear hP hP2 hke
              go_wp2_with fail
              go_roundw
              case rel => exact ⟨a + 1, by omega, by go_num, HP.out⟩
              case measure => simp [intOf]; omega
        · have hae : a = L := by omega
          have hP2 := hA.cast (n' := 2 + S + L * 6 + 0) (l' := pre0 ++ blkS S ++ blkL L ++ []) (by rw [hae]; omega) (by rw [hae, List.append_nil])
          have HP := Lib.hid hP2
          clear hA hP2 hae
          go_wp2_with fail
          go_loopw [3, 7] (fun v i wr => ∃ k : Nat, k ≤ T ∧ i = .int .i64 k ∧ PlS w wr S L T C D v (2 + S + L * 6 + k * 2) (pre0 ++ blkS S ++ blkL L ++ blkT k)) (fun _ i _ => T - (intOf i).toNat)
          case atStart => exact ⟨0, Nat.zero_le _, rfl, HP.out⟩
          case round =>
            obtain ⟨k, hk, rfl, hP⟩ := hrel
            obtain ⟨b0, b1, b2, b3, b4⟩ := hP.box
            by_cases hlt : k < T
            · go_wp2_with (at_builtin; refine wpList_append_fp _ rfl _ _ 94 rfl 114 i0 (.agg #[.int .i64 0, .int .i64 0, .int .i64 0, .int .i64 0]) 4 32 Try.underlying94 hi hz0 hz1 hz2 rfl (by decide) _ _ _ rfl (hP.ow.alloc _) ⟨_, 0, none⟩ 2 2 [.int .i64 5, .int .i64 k, .int .i64 0, .int .i64 0, .int .i64 5, .int .i64 k, .int .i64 0, .int .i64 1] rfl rfl (cells_new _ _ _) (by simp [Value.oneCell']) (by unfold maxLen; omega) (by omega) ?_; intro v1 w3 hown hgr hob; have hP1 := hP.app (l' := [(5, (k : Int), 0, 0), (5, (k : Int), 0, 1)]) hown hgr hob rfl; clear hown hgr hob)
              go_roundw
              case rel => exact ⟨k + 1, by omega, by go_num, hP1.cast (by omega) (by rw [blkT_succ, List.append_assoc])⟩
              case measure => simp [intOf]; omega
            · have hke : k = T := by omega
              have hP2 := hP.cast (n' := 2 + S + L * 6 + T * 2 + 0) (l' := pre0 ++ blkS S ++ blkL L ++ blkT T ++ []) (by omega) (by rw [hke, List.append_nil])
              have HP := Lib.hid hP2
              clear hP hP2 hke
              go_wp2_with fail
              go_loopw [3, 8] (fun v i wr => ∃ k : Nat, k ≤ T ∧ i = .int .i64 k ∧ PlS w wr S L T C D v (2 + S + L * 6 + T * 2 + k * (L * 2)) (pre0 ++ blkS S ++ blkL L ++ blkT T ++ blkN L k)) (fun _ i _ => T - (intOf i).toNat)
              case atStart => exact ⟨0, Nat.zero_le _, rfl, HP.out.cast (by simp) rfl⟩
              case round =>
                obtain ⟨a, ha, rfl, hA⟩ := hrel
                obtain ⟨b0, b1, b2, b3, b4⟩ := hA.box
                by_cases hla : a < T
                · have hA1 := hA.cast (n' := 2 + S + L * 6 + T * 2 + a * (L * 2) + 0) (l' := pre0 ++ blkS S ++ blkL L ++ blkT T ++ blkN L a ++ []) (by omega) (by rw [List.append_nil])
                  have HA := Lib.hid hA1
                  have haL : a * (L * 2) + L * 2 ≤ 32 := by
                    have h := Nat.mul_le_mul (show a + 1 ≤ 4 by omega) (show L * 2 ≤ 8 by omega)
                    rw [Nat.add_mul] at h; omega
                  clear hA hA1
                  go_wp2_with fail
                  go_loopw [3, 9] (fun v i wr => ∃ k : Nat, k ≤ L ∧ i = .int .i64 k ∧ PlS w wr S L T C D v (2 + S + L * 6 + T * 2 + a * (L * 2) + k * 2) (pre0 ++ blkS S ++ blkL L ++ blkT T ++ blkN L a ++ rowN a k)) (fun _ i _ => L - (intOf i).toNat)
                  case atStart => exact ⟨0, Nat.zero_le _, rfl, HA.out⟩
                  case round =>
                    clear HA b0 b1 b2 b3 b4
                    obtain ⟨k, hk, rfl, hP⟩ := hrel
                    obtain ⟨b0, b1, b2, b3, b4⟩ := hP.box
                    by_cases hlt : k < L
                    · go_wp2_with (at_builtin; refine wpList_append_fp _ rfl _ _ 94 rfl 114 i0 (.agg #[.int .i64 0, .int .i64 0, .int .i64 0, .int .i64 0]) 4 32 Try.underlying94 hi hz0 hz1 hz2 rfl (by decide) _ _ _ rfl (hP.ow.alloc _) ⟨_, 0, none⟩ 2 2 [.int .i64 6, .int .i64 a, .int .i64 k, .int .i64 0, .int .i64 6, .int .i64 a, .int .i64 k, .int .i64 1] rfl rfl (cells_new _ _ _) (by simp [Value.oneCell']) (by unfold maxLen; omega) (by omega) ?_; intro v1 w3 hown hgr hob; have hP1 := hP.app (l' := [(6, (a : Int), (k : Int), 0), (6, (a : Int), (k : Int), 1)]) hown hgr hob rfl; clear hown hgr hob)
                      go_roundw
                      case rel => exact ⟨k + 1, by omega, by go_num, hP1.cast (by omega) (by rw [rowN_succ, List.append_assoc])⟩
                      case measure => simp [intOf]; omega
                    · have hke : k = L := by omega
                      have hP2 := hP.cast (n' := 2 + S + L * 6 + T * 2 + (a + 1) * (L * 2)) (l' := pre0 ++ blkS S ++ blkL L ++ blkT T ++ blkN L (a + 1)) (by rw [hke]; simp only [Nat.add_mul]; omega) (by rw [hke, blkN_succ, List.append_assoc])
                      have HP := Lib.hid hP2
                      clear hP hP2 hke
                      go_wp2_with fail
                      go_roundw
                      case rel => exact ⟨a + 1, by omega, by go_num, HP.out⟩
                      case measure => simp [intOf]; omega
                · have hae : a = T := by omega
                  have hP2 := hA.cast (n' := 2 + S + L * 6 + T * 2 + T * (L * 2) + 0) (l' := pre0 ++ blkS S ++ blkL L ++ blkT T ++ blkN L T ++ []) (by rw [hae]; omega) (by rw [hae, List.append_nil])
                  have HP := Lib.hid hP2
                  clear hA hP2 hae
                  go_wp2_with fail
                  go_loopw [3, 10] (fun v i wr => ∃ k : Nat, k ≤ T ∧ i = .int .i64 k ∧ PlS w wr S L T C D v (2 + S + L * 6 + T * 2 + T * (L * 2) + k) (pre0 ++ blkS S ++ blkL L ++ blkT T ++ blkN L T ++ blkF k)) (fun _ i _ => T - (intOf i).toNat)
                  case atStart => exact ⟨0, Nat.zero_le _, rfl, HP.out⟩
                  case round =>
                    obtain ⟨k, hk, rfl, hP⟩ := hrel
                    obtain ⟨b0, b1, b2, b3, b4⟩ := hP.box
                    by_cases hlt : k < T
                    · go_wp2_with (at_builtin; refine wpList_append_fp _ rfl _ _ 94 rfl 114 i0 (.agg #[.int .i64 0, .int .i64 0, .int .i64 0, .int .i64 0]) 4 32 Try.underlying94 hi hz0 hz1 hz2 rfl (by decide) _ _ _ rfl (hP.ow.alloc _) ⟨_, 0, none⟩ 1 1 [.int .i64 7, .int .i64 k, .int .i64 0, .int .i64 0] rfl rfl (cells_new _ _ _) (by simp [Value.oneCell']) (by unfold maxLen; omega) (by omega) ?_; intro v1 w3 hown hgr hob; have hP1 := hP.app (l' := [(7, (k : Int), 0, 0)]) hown hgr hob rfl; clear hown hgr hob)
                      go_roundw
                      case rel => exact ⟨k + 1, by omega, by go_num, hP1.cast (by omega) (by rw [blkF_succ, List.append_assoc])⟩
                      case measure => simp [intOf]; omega
                    · have hke : k = T := by omega
                      have hP2 := hP.cast (n' := 2 + S + L * 6 + T * 2 + T * (L * 2) + T + 0) (l' := pre0 ++ blkS S ++ blkL L ++ blkT T ++ blkN L T ++ blkF T ++ []) (by omega) (by rw [hke, List.append_nil])
                      have HP := Lib.hid hP2
                      clear hP hP2 hke
                      go_wp2_with fail
                      go_loopw [3, 11] (fun v i wr => ∃ k : Nat, k ≤ C ∧ i = .int .i64 k ∧ PlS w wr S L T C D v (2 + S + L * 6 + T * 2 + T * (L * 2) + T + k * 6) (pre0 ++ blkS S ++ blkL L ++ blkT T ++ blkN L T ++ blkF T ++ blkC k)) (fun _ i _ => C - (intOf i).toNat)
                      case atStart => exact ⟨0, Nat.zero_le _, rfl, HP.out.cast (by simp) rfl⟩
                      case round =>
                        obtain ⟨a, ha, rfl, hA⟩ := hrel
                        obtain ⟨b0, b1, b2, b3, b4⟩ := hA.box
                        by_cases hla : a < C
                        · have hA1 := hA.cast (n' := 2 + S + L * 6 + T * 2 + T * (L * 2) + T + a * 6 + 0) (l' := pre0 ++ blkS S ++ blkL L ++ blkT T ++ blkN L T ++ blkF T ++ blkC a ++ []) (by omega) (by rw [List.append_nil])
                          have HA := Lib.hid hA1
                          clear hA hA1
                          go_wp2_with fail
                          go_loopw [3, 12] (fun v i wr => ∃ k : Nat, k ≤ 6 ∧ i = .int .i64 k ∧ PlS w wr S L T C D v (2 + S + L * 6 + T * 2 + T * (L * 2) + T + a * 6 + k) (pre0 ++ blkS S ++ blkL L ++ blkT T ++ blkN L T ++ blkF T ++ blkC a ++ rowC a k)) (fun _ i _ => 6 - (intOf i).toNat)
                          case atStart => exact ⟨0, Nat.zero_le _, rfl, HA.out⟩
                          case round =>
                            clear HA b0 b1 b2 b3 b4
                            obtain ⟨k, hk, rfl, hP⟩ := hrel
                            obtain ⟨b0, b1, b2, b3, b4⟩ := hP.box
                            by_cases hlt : k < 6
                            · go_wp2_with (at_builtin; refine wpList_append_fp _ rfl _ _ 94 rfl 114 i0 (.agg #[.int .i64 0, .int .i64 0, .int .i64 0, .int .i64 0]) 4 32 Try.underlying94 hi hz0 hz1 hz2 rfl (by decide) _ _ _ rfl (hP.ow.alloc _) ⟨_, 0, none⟩ 1 1 [.int .i64 8, .int .i64 a, .int .i64 0, .int .i64 k] rfl rfl (cells_new _ _ _) (by simp [Value.oneCell']) (by unfold maxLen; omega) (by omega) ?_; intro v1 w3 hown hgr hob; have hP1 := hP.app (l' := [(8, (a : Int), 0, (k : Int))]) hown hgr hob rfl; clear hown hgr hob)
                              go_roundw
                              case rel => exact ⟨k + 1, by omega, by go_num, hP1.cast (by omega) (by rw [rowC_succ, List.append_assoc])⟩
                              case measure => simp [intOf]; omega
                            · have hke : k = 6 := by omega
                              have hP2 := hP.cast (n' := 2 + S + L * 6 + T * 2 + T * (L * 2) + T + (a + 1) * 6) (l' := pre0 ++ blkS S ++ blkL L ++ blkT T ++ blkN L T ++ blkF T ++ blkC (a + 1)) (by rw [hke]; simp only [Nat.add_mul]; omega) (by rw [hke, blkC_succ, List.append_assoc])
                              have HP := Lib.hid hP2
                              clear hP hP2 hke
                              go_wp2_with fail
                              go_roundw
                              case rel => exact ⟨a + 1, by omega, by go_num, HP.out⟩
                              case measure => simp [intOf]; omega
                        · have hae : a = C := by omega
                          have hP2 := hA.cast (n' := 2 + S + L * 6 + T * 2 + T * (L * 2) + T + C * 6 + 0) (l' := pre0 ++ blkS S ++ blkL L ++ blkT T ++ blkN L T ++ blkF T ++ blkC C ++ []) (by rw [hae]; omega) (by rw [hae, List.append_nil])
                          have HP := Lib.hid hP2
                          clear hA hP2 hae
                          go_wp2_with fail
                          go_loopw [3, 13] (fun v i wr => ∃ k : Nat, k ≤ D ∧ i = .int .i64 k ∧ PlS w wr S L T C D v (2 + S + L * 6 + T * 2 + T * (L * 2) + T + C * 6 + k * 2) (pre0 ++ blkS S ++ blkL L ++ blkT T ++ blkN L T ++ blkF T ++ blkC C ++ blkD k)) (fun _ i _ => D - (intOf i).toNat)
                          case atStart => exact ⟨0, Nat.zero_le _, rfl, HP.out⟩
                          case round =>
                            obtain ⟨k, hk, rfl, hP⟩ := hrel
                            obtain ⟨b0, b1, b2, b3, b4⟩ := hP.box
                            by_cases hlt : k < D
                            · go_wp2_with (at_builtin; refine wpList_append_fp _ rfl _ _ 94 rfl 114 i0 (.agg #[.int .i64 0, .int .i64 0, .int .i64 0, .int .i64 0]) 4 32 Try.underlying94 hi hz0 hz1 hz2 rfl (by decide) _ _ _ rfl (hP.ow.alloc _) ⟨_, 0, none⟩ 2 2 [.int .i64 9, .int .i64 k, .int .i64 0, .int .i64 0, .int .i64 10, .int .i64 k, .int .i64 0, .int .i64 0] rfl rfl (cells_new _ _ _) (by simp [Value.oneCell']) (by unfold maxLen; omega) (by omega) ?_; intro v1 w3 hown hgr hob; have hP1 := hP.app (l' := [(9, (k : Int), 0, 0), (10, (k : Int), 0, 0)]) hown hgr hob rfl; clear hown hgr hob)
                              go_roundw
                              case rel => exact ⟨k + 1, by omega, by go_num, hP1.cast (by omega) (by rw [blkD_succ, List.append_assoc])⟩
                              case measure => simp [intOf]; omega
                            · have hke : k = D := by omega
                              have hP2 := hP.cast (n' := 2 + S + L * 6 + T * 2 + T * (L * 2) + T + C * 6 + D * 2 + 0) (l' := pre0 ++ blkS S ++ blkL L ++ blkT T ++ blkN L T ++ blkF T ++ blkC C ++ blkD D ++ []) (by omega) (by rw [hke, List.append_nil])
                              have HP := Lib.hid hP2
                              clear hP hP2 hke
                              go_wp2_with fail
                              go_ret
                              have hP := HP.out
                              rw [List.append_nil] at hP
                              exact ⟨_, _, rfl, hP.ow, fun g hg => Nat.le_of_lt (hP.fr g hg), hP.kp⟩
end Go.Proofs.Ytfmamedkiaimpaa
