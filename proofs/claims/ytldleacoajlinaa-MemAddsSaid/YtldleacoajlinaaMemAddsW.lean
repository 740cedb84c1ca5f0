/- The walk of MemAdds. -/
import Derived.Test.YtldleacoajlinaaMemLaws
namespace Go.Proofs.Ytldleacoajlinaa
open Go.RowKit

def isum : List Int → Int
  | [] => 0
  | x :: l => x + isum l
theorem isum_append (l m : List Int) : isum (l ++ m) = isum l + isum m := by
  induction l with
  | nil => simp [isum]
  | cons x l ih => simp only [List.cons_append, isum, ih]; omega
theorem isum_take (l : List Int) (k : Nat) (h : k < l.length) : isum (l.take (k + 1)) = isum (l.take k) + l.getD k 0 := by
  rw [List.take_succ_eq_append_getElem h, isum_append, getD_at _ _ _ h]; simp [isum]
def rot (l : List Int) (r : Nat) : List Int := l.drop r ++ l.take r
theorem rot_len (l : List Int) (r : Nat) : (rot l r).length = l.length := by simp [rot]; omega
theorem rot_sum (l : List Int) (r : Nat) : isum (rot l r) = isum l := by
  rw [rot, isum_append]
  have := isum_append (l.take r) (l.drop r)
  rw [List.take_append_drop] at this; omega
theorem rot_get (l : List Int) (r k : Nat) (hr : r < l.length) (hk : k < l.length) : (rot l r).getD k 0 = l.getD ((k + r) % l.length) 0 := by
  simp only [List.getD_eq_getElem?_getD, rot]
  congr 1
  by_cases h : k + r < l.length
  · rw [List.getElem?_append_left (by simp; omega), List.getElem?_drop, Nat.mod_eq_of_lt h, Nat.add_comm]
  · rw [List.getElem?_append_right (by simp; omega), List.getElem?_take, List.length_drop, if_pos (by omega)]
    congr 1
    rw [Nat.mod_eq_sub_mod (by omega), Nat.mod_eq_of_lt (by omega)]; omega
theorem wrap_add (a b : Int) : wrap64 (wrap64 a + b) = wrap64 (a + b) := by simp only [wrap64_eq]; omega
theorem add_word (M : MemS) (i : Nat) (x : Int) (h : i < M.L.length) : (M.add i x).word i = wrap64 (M.word i + x) := by
  simp [MemS.add, MemS.word, h]
theorem add_len (M : MemS) (i : Nat) (x : Int) : (M.add i x).L.length = M.L.length := by simp [MemS.add]

set_option maxHeartbeats 1000000 in
set_option maxRecDepth 100000 in
theorem memAdds_main (w : World) (a0 : Int) (w0 : (Lit.int .i64 a0).wf = true) (v1 : Value) (zs : List Int) (hin : InI w v1 zs) (a2 : Int) (h40 : zs.length ≤ 40) :
    Calls Try.prog 8 #[.int .i64 a0, v1, .int .i64 a2] w fun e w' => e = .returned (.bool true) ∧ Keeps NoS w w' := by
  obtain ⟨p, cap, rfl, _, hcell, _⟩ := hin
  have Hc := Lib.hid hcell
  obtain ⟨b0, b0'⟩ := wf_bd w0
  have hw0 : wrap64 a0 = a0 := wrap64_id b0 b0'
  have Hw0 := Lib.hid hw0
  clear hcell hw0 w0 b0 b0'
  go_enter Try.func8, Try.ntmps8
  go_wp2_with fail
  refine (new_some w.heap.size 0 1 [a0] (w.alloc (.cells #[.int .i64 a0] 2)) (by simp) (by simp) ?_).mono ?_
  · intro k hk
    rw [blk_cell (heap_alloc_new _ _)]
    match k, hk with
    | 0, _ => rfl
  rintro e w1 ⟨a, v, rfl, hm, ha, hv, hk⟩
  have h1 := fresh_in ((Keeps.refl NoS w).alloc _) hm ha hv hk
  clear hm ha hv hk
  go_wp2_with fail
  refine (new_some w1.heap.size 0 1 [a0] (w1.alloc (.cells #[.int .i64 a0] 2)) (by simp) (by simp) ?_).mono ?_
  · intro k hk
    rw [blk_cell (heap_alloc_new _ _)]
    match k, hk with
    | 0, _ => rfl
  rintro e w2 ⟨c, u, rfl, hm, ha, hv, hk⟩
  have h2 := TwoT.make (h1.keep ((Keeps.refl _ _).alloc _)) hm ha hv hk
  clear hm ha hv hk h1
  have H2 := Lib.hid h2
  clear h2
  go_wp2_with fail
  go_loopw [9, 10] (fun s i wr => ∃ (k : Nat) (M N : MemS) (S : Int), k ≤ zs.length ∧ i = .int .i64 k ∧ s = .int .i64 S ∧ M.L.length = 1 ∧ N.L.length = 1 ∧ M.word 0 = S ∧ S = wrap64 (a0 + isum (zs.take k)) ∧ N.word 0 = wrap64 (a0 + isum ((rot zs ((IntKind.u64.wrap a2).tmod zs.length).toNat).take k)) ∧ TwoM w wr a c v u M N) (fun _ i _ => zs.length - (intOf i).toNat)
  case atStart => exact ⟨0, _, _, a0, by omega, rfl, rfl, rfl, rfl, rfl, by simp [isum, Hw0.out], by simp [isum, Hw0.out]; rfl, H2.out⟩
  case round =>
    obtain ⟨k, M, N, S, hk, rfl, rfl, hM, hN, hMS, hS, hNS, hT⟩ := hrel
    clear H2
    by_cases hlt : k < zs.length
    · obtain ⟨b, off, rfl, hc⟩ := Hc.out (fun e => by rw [e] at hlt; exact absurd hlt (by simp))
      obtain ⟨r1, r2⟩ := u64_tmod_bd a2 (zs.length : Int) (by omega)
      obtain ⟨r, hr⟩ : ∃ r : Nat, (IntKind.u64.wrap a2).tmod zs.length = (r : Int) := Int.eq_ofNat_of_zero_le r1
      have hrn : ((IntKind.u64.wrap a2).tmod zs.length).toNat = r := by rw [hr]; simp
      rw [hrn] at hNS
      rw [hr] at r1 r2
      have hrl : r < zs.length := by omega
      have hml : (k + r) % zs.length < zs.length := Nat.mod_lt _ (by omega)
      have q1 : (0 : Int) ≤ ((k : Int) + (r : Int)) % (zs.length : Int) := Int.emod_nonneg _ (by omega)
      have q2 : ((k : Int) + (r : Int)) % (zs.length : Int) < (zs.length : Int) := Int.emod_lt_of_pos _ (by omega)
      have e0 := hc k hlt
      have d0 := hT.s.kp.cell e0 (fun f => f)
      have hc1 := hc ((k + r) % zs.length) hml
      rw [← rot_get zs r k hrl hlt] at hc1
      have hA : wrap64 (S + zs.getD k 0) = wrap64 (a0 + isum (zs.take (k + 1))) := by rw [hS, wrap_add, isum_take _ _ hlt]; congr 1; omega
      have hB : wrap64 (N.word 0 + (rot zs r).getD k 0) = wrap64 (a0 + isum ((rot zs r).take (k + 1))) := by rw [hNS, wrap_add, isum_take _ _ (by rw [rot_len]; exact hlt)]; congr 1; omega
      have HA := Lib.hid hA; have HB := Lib.hid hB; have HMS := Lib.hid hMS; have HM := Lib.hid hM; have HN := Lib.hid hN; have HR := Lib.hid hrn
      clear hA hB hMS hM hN hrn hS hNS hc
      generalize zs.getD k 0 = x at *
      generalize (rot zs r).getD k 0 = y at *
      go_wp2_with fail
      refine (add_ok a v M 0 x wr hT.s.m (by rw [HM.out]; decide)).mono ?_
      rw [HMS.out]
      rintro e w3 ⟨rfl, hm3, hk3⟩
      have hT3 := hT.turnS hm3 hk3
      have d1 := hT3.s.kp.cell hc1 (fun f => f)
      go_wp2_with fail
      refine (add_ok c u N 0 y w3 hT3.r.m (by rw [HN.out]; decide)).mono ?_
      rintro e w4 ⟨rfl, hm4, hk4⟩
      have hT4 := hT3.turnR hm4 hk4
      have d2 := hT4.s.kp.cell e0 (fun f => f)
      go_wp2_with fail
      go_roundw
      case rel => exact ⟨k + 1, M.add 0 x, N.add 0 y, wrap64 (S + x), by omega, by go_num, rfl, by rw [add_len]; exact HM.out, by rw [add_len]; exact HN.out, by rw [add_word _ _ _ (by rw [HM.out]; decide), HMS.out], HA.out, by rw [HR.out, add_word _ _ _ (by rw [HN.out]; decide), HB.out], hT4⟩
      case measure => simp [intOf]; omega
    · obtain rfl : k = zs.length := by omega
      have hNS' : N.word 0 = S := by
        rw [hNS, hS, List.take_length, List.take_of_length_le (by rw [rot_len]; exact Nat.le_refl _), rot_sum]
      have HMS := Lib.hid hMS; have HNS := Lib.hid hNS'; have HM := Lib.hid hM; have HN := Lib.hid hN
      clear hMS hNS hNS' hS hM hN
      go_wp2_with (first
        | (go_at_call 37; refine (told2_any _).mono ?_; rintro e w3 ⟨rfl, hk3⟩; have hT3 := hT.keep hk3)
        | (go_at_call 40; refine (peek_ok c u N 0 _ hT4.r.m (by rw [HN.out]; decide)).mono ?_; rw [HNS.out]; rintro e w5 ⟨rfl, hk5⟩)
        | (go_at_call 40; refine (peek_ok a v M 0 _ hT3.s.m (by rw [HM.out]; decide)).mono ?_; rw [HMS.out]; rintro e w4 ⟨rfl, hk4⟩; have hT4 := hT3.keep hk4))
      go_ret
      exact ⟨rfl, hT4.s.kp.trans hk5⟩

set_option maxRecDepth 100000 in
theorem memAdds_walk (w : World) (a0 : Int) (w0 : (Lit.int .i64 a0).wf = true) (v1 : Value) (z1 : List Int) (h1 : InI w v1 z1) (_f1 : ∀ k, k < z1.length → (Lit.int .i64 (z1.getD k 0)).wf = true) (a2 : Int) (_w2 : (Lit.int .i64 a2).wf = true) :
    Calls Try.prog 8 #[.int .i64 a0, v1, .int .i64 a2] w fun e w' => e = .returned (.bool true) ∧ Keeps NoS w w' := by
  by_cases h40 : z1.length ≤ 40
  · exact memAdds_main w a0 w0 v1 z1 h1 a2 h40
  · obtain ⟨p, cap, rfl, hm, _⟩ := h1
    go_enter Try.func8, Try.ntmps8
    go_wp2_with (go_at_call 37; refine (told2_any _).mono ?_; rintro e w1 ⟨rfl, hk1⟩)
    go_ret
    exact ⟨rfl, hk1⟩
end Go.Proofs.Ytldleacoajlinaa
