/- writes.Set: Get and the rest. -/
import Derived.Test.YtfmamedkiaimpaaWritesPut
namespace Go.Proofs.Ytfmamedkiaimpaa
open Go.RowKit
theorem wget_nil (k : Int) (w : World) : Calls Try.prog 57 #[.pointer none, .int .i64 k] w fun e w' => e = .returned (.tuple #[.int .i64 0, .bool false]) ∧ Keeps NoS w w' := by
  go_enter Try.func57, Try.ntmps57
  go_wp2
  go_quiet (fail)
  go_wp2
  go_ret2
  exact ⟨rfl, (Keeps.refl _ _).drewN _⟩
theorem wget_neg (a : Nat) (v : Value) (room asked : Int) (l : List (Int × Int)) (k : Int) (w : World) (_hs : WrAt w a v room l asked) (h : k < 0) : Calls Try.prog 57 #[.pointer (some ⟨a, 0, none⟩), .int .i64 k] w fun e w' => e = .returned (.tuple #[.int .i64 0, .bool false]) ∧ Keeps NoS w w' := by
  have hd : decide (k < 0) = true := by simpa using h
  go_enter Try.func57, Try.ntmps57
  go_wp2
  go_quiet (fail)
  go_wp2
  go_ret2
  exact ⟨rfl, (Keeps.refl _ _).drewN _⟩
theorem wget_out (a : Nat) (v : Value) (room asked : Int) (l : List (Int × Int)) (k : Int) (w : World) (hs : WrAt w a v room l asked) (h0 : 0 ≤ k) (hf : inFilter l k = false) : Calls Try.prog 57 #[.pointer (some ⟨a, 0, none⟩), .int .i64 k] w fun e w' => e = .returned (.tuple #[.int .i64 0, .bool false]) ∧ Keeps NoS w w' := by
  have hd : decide (k < 0) = false := by simpa using h0
  obtain ⟨_, _, c2, _⟩ := hs.cells
  have hb := find_lemmas l k
  rw [hf] at hb
  have hb0 : bits .and .u64 (filterOf l : Int) (bitAt k : Int) = 0 := hb
  clear hb hf hs
  go_enter Try.func57, Try.ntmps57
  go_wp2
  go_quiet ((go_at_call 78; exact Calls.quiet_of_same (bit_same k _)))
  go_wp2
  go_ret2
  exact ⟨rfl, (Keeps.refl _ _).drewN _⟩
/-- what stands at a place; 0 -/
def getL (l : List (Int × Int)) (k : Int) : Int := if hasKey l k then (l.getD (findL l k).toNat (0, 0)).2 else 0
theorem WrAt.asking {w : World} {a : Nat} {v : Value} {room asked : Int} {l : List (Int × Int)} (h : WrAt w a v room l asked) (z : Int) : WrAt (w.setCell ⟨a, 3, none⟩ (.int .i64 z)) a v room l z :=
  ⟨by rw [blk_set h.hd]; rfl, owns_setCell h.ow h.ne _, h.ne, h.small⟩
theorem wget_in_no (a : Nat) (v : Value) (room asked : Int) (l : List (Int × Int)) (k : Int) (w : World) (hs : WrAt w a v room l asked) (h0 : 0 ≤ k) (hf : inFilter l k = true) (hk : hasKey l k = false) :
    Calls Try.prog 57 #[.pointer (some ⟨a, 0, none⟩), .int .i64 k] w fun e w' => e = .returned (.tuple #[.int .i64 0, .bool false]) ∧ WrAt w' a v room l (wrap64 (asked + 1)) ∧ Keeps (fun i => a = i) w w' := by
  have hd : decide (k < 0) = false := by simpa using h0
  obtain ⟨_, _, c2, c3⟩ := hs.cells
  have f3 := blk_free hs.hd 3
  have hb := find_lemmas l k
  rw [hf] at hb
  have hb1 : (bits .and .u64 (filterOf l : Int) (bitAt k : Int) == 0) = false := by
    rw [hb]; simpa using bitAt_pos k
  clear hb hf
  have hsm := hs.small
  have HF := Lib.hid (findL_eq_neg l k hk)
  clear hk
  go_enter Try.func57, Try.ntmps57
  go_wp2
  go_quiet ((go_at_call 78; exact Calls.quiet_of_same (bit_same k _)))
  go_wp2_with fail
  have hs2 := (hs.keep ((Keeps.refl NoS _).drewN nq) (fun f => f) (fun _ _ f => f)).asking (wrap64 (asked + 1))
  have k2 : Keeps (fun i => a = i) w ((w.drewN nq).setCell ⟨a, 3, none⟩ (.int .i64 (wrap64 (asked + 1)))) := ((Keeps.refl (fun i => a = i) w).drewN nq).setCell (p := ⟨a, 3, none⟩) (fun _ => rfl) _
  have HS := Lib.hid hs2; have HK := Lib.hid k2
  clear hs2 k2 hs hb1 f3 c2 c3
  refine (wfind_any a v room _ l k _ HS.out).mono ?_
  rw [HF.out]
  rintro e w2 ⟨rfl, hk2⟩
  go_wp2
  go_ret2
  exact ⟨rfl, HS.out.keep hk2 (fun f => f) (fun _ _ f => f), HK.out.trans hk2.no⟩
theorem wget_in_yes (a : Nat) (v : Value) (room asked : Int) (l : List (Int × Int)) (k : Int) (w : World) (hs : WrAt w a v room l asked) (h0 : 0 ≤ k) (hf : inFilter l k = true) (hk : hasKey l k = true) :
    Calls Try.prog 57 #[.pointer (some ⟨a, 0, none⟩), .int .i64 k] w fun e w' => e = .returned (.tuple #[.int .i64 (l.getD (findL l k).toNat (0, 0)).2, .bool true]) ∧ WrAt w' a v room l (wrap64 (asked + 1)) ∧ Keeps (fun i => a = i) w w' := by
  have hd : decide (k < 0) = false := by simpa using h0
  obtain ⟨_, _, c2, c3⟩ := hs.cells
  have f3 := blk_free hs.hd 3
  have hb := find_lemmas l k
  rw [hf] at hb
  have hb1 : (bits .and .u64 (filterOf l : Int) (bitAt k : Int) == 0) = false := by
    rw [hb]; simpa using bitAt_pos k
  clear hb hf
  have hsm := hs.small
  obtain ⟨i, hi, hl, _⟩ := findL_at l k hk
  rw [show (l.getD (findL l k).toNat (0, 0)).2 = (l.getD i (0, 0)).2 by rw [hi]; rfl]
  obtain ⟨y, hy⟩ : ∃ y, (l.getD i (0, 0)).2 = y := ⟨_, rfl⟩
  rw [hy]
  have HF := Lib.hid hi; have HY := Lib.hid hy
  clear hk hi hy
  go_enter Try.func57, Try.ntmps57
  go_wp2
  go_quiet ((go_at_call 78; exact Calls.quiet_of_same (bit_same k _)))
  go_wp2_with fail
  have hs2 := (hs.keep ((Keeps.refl NoS _).drewN nq) (fun f => f) (fun _ _ f => f)).asking (wrap64 (asked + 1))
  have k2 : Keeps (fun i => a = i) w ((w.drewN nq).setCell ⟨a, 3, none⟩ (.int .i64 (wrap64 (asked + 1)))) := ((Keeps.refl (fun i => a = i) w).drewN nq).setCell (p := ⟨a, 3, none⟩) (fun _ => rfl) _
  have HS := Lib.hid hs2; have HK := Lib.hid k2
  clear hs2 k2 hs hb1 f3 c2 c3
  refine (wfind_any a v room _ l k _ HS.out).mono ?_
  rw [HF.out]
  rintro e w2 ⟨rfl, hk2⟩
  have hs3 := HS.out.keep hk2 (fun f => f) (fun _ _ f => f)
  have H3 := Lib.hid hs3
  obtain ⟨_, d1, _, _⟩ := hs3.cells
  rcases owns_words hs3.ow with ⟨rfl, rfl⟩ | ⟨g, cap, rfl, hgs, _, hcell⟩
  · simp at hl
  have e1 := (hcell i hl).2
  rw [HY.out] at e1
  clear hcell hs3
  go_wp2
  go_ret2
  exact ⟨rfl, H3.out, HK.out.trans hk2.no⟩
theorem wget_in (a : Nat) (v : Value) (room asked : Int) (l : List (Int × Int)) (k : Int) (w : World) (hs : WrAt w a v room l asked) (h0 : 0 ≤ k) (hf : inFilter l k = true) :
    Calls Try.prog 57 #[.pointer (some ⟨a, 0, none⟩), .int .i64 k] w fun e w' => e = .returned (.tuple #[.int .i64 (getL l k), .bool (hasKey l k)]) ∧ WrAt w' a v room l (wrap64 (asked + 1)) ∧ Keeps (fun i => a = i) w w' := by
  cases hk : hasKey l k with
  | false => rw [show getL l k = 0 by simp [getL, hk]]; exact wget_in_no a v room asked l k w hs h0 hf hk
  | true => rw [show getL l k = (l.getD (findL l k).toNat (0, 0)).2 by simp [getL, hk]]; exact wget_in_yes a v room asked l k w hs h0 hf hk
/-- how often it was asked, behind a Get -/
def askedL (l : List (Int × Int)) (k asked : Int) : Int := if decide (0 ≤ k) && inFilter l k then wrap64 (asked + 1) else asked
def hasW (l : List (Int × Int)) (k : Int) : Bool := decide (0 ≤ k) && hasKey l k
def getW (l : List (Int × Int)) (k : Int) : Int := if 0 ≤ k then getL l k else 0
theorem wget_any (a : Nat) (v : Value) (room asked : Int) (l : List (Int × Int)) (k : Int) (w : World) (hs : WrAt w a v room l asked) :
    Calls Try.prog 57 #[.pointer (some ⟨a, 0, none⟩), .int .i64 k] w fun e w' => e = .returned (.tuple #[.int .i64 (getW l k), .bool (hasW l k)]) ∧ WrAt w' a v room l (askedL l k asked) ∧ Keeps (fun i => a = i) w w' := by
  by_cases h0 : 0 ≤ k
  · cases hf : inFilter l k with
    | true =>
      rw [show getW l k = getL l k by simp [getW, h0], show hasW l k = hasKey l k by simp [hasW, h0], show askedL l k asked = wrap64 (asked + 1) by simp [askedL, hf, h0]]
      exact wget_in a v room asked l k w hs h0 hf
    | false =>
      have hk : hasKey l k = false := by
        cases hk : hasKey l k with
        | false => rfl
        | true => rw [inFilter_has l k hk] at hf; cases hf
      rw [show getW l k = 0 by simp [getW, getL, hk], show hasW l k = false by simp [hasW, hk], show askedL l k asked = asked by simp [askedL, hf]]
      exact (wget_out a v room asked l k w hs h0 hf).mono fun e w' ⟨he, hw⟩ => ⟨he, hs.keep hw (fun f => f) (fun _ _ f => f), hw.no⟩
  · rw [show getW l k = 0 by simp [getW, h0], show hasW l k = false by simp [hasW, h0], show askedL l k asked = asked by simp [askedL, h0]]
    exact (wget_neg a v room asked l k w hs (by omega)).mono fun e w' ⟨he, hw⟩ => ⟨he, hs.keep hw (fun f => f) (fun _ _ f => f), hw.no⟩

theorem wnew_any (n : Int) (w : World) : Calls Try.prog 65 #[.int .i64 n] w fun e w' => e = .returned (.pointer (some ⟨w.heap.size, 0, none⟩)) ∧ WrAt w' w.heap.size (.slice none 0 0) (min (max n 0) 32) [] 0 ∧ Keeps NoS w w' ∧ w.heap.size < w'.heap.size := by
  have hp : ∀ m : Int, WrAt (w.alloc (.cells #[.int .i64 m, .slice none 0 0, .int .u64 0, .int .i64 0] 105)) w.heap.size (.slice none 0 0) m [] 0 := fun m => ⟨heap_alloc_new _ _, World.ownsRow_nil _ _ _ _, by simp [Value.ownBlock], by simp⟩
  by_cases h0 : 0 ≤ n <;> by_cases h1 : n ≤ 32
  all_goals first
    | (exfalso; omega)
    | skip
  · have e : min (max n 0) 32 = n := by omega
    rw [e]; clear e
    have hp := Lib.hid (hp n)
    go_enter Try.func65, Try.ntmps65
    go_wp2
    all_goals first
      | (exfalso; omega)
      | (go_ret; exact ⟨rfl, hp.out, (Keeps.refl _ _).alloc _, by simp⟩)
  · have e : min (max n 0) 32 = 32 := by omega
    rw [e]; clear e
    have hp := Lib.hid (hp 32)
    go_enter Try.func65, Try.ntmps65
    go_wp2
    all_goals first
      | (exfalso; omega)
      | (go_ret; exact ⟨rfl, hp.out, (Keeps.refl _ _).alloc _, by simp⟩)
  · have e : min (max n 0) 32 = 0 := by omega
    rw [e]; clear e
    have hp := Lib.hid (hp 0)
    go_enter Try.func65, Try.ntmps65
    go_wp2
    all_goals first
      | (exfalso; omega)
      | (go_ret; exact ⟨rfl, hp.out, (Keeps.refl _ _).alloc _, by simp⟩)
theorem wlen_any (a : Nat) (v : Value) (room asked : Int) (l : List (Int × Int)) (w : World) (hs : WrAt w a v room l asked) : Calls Try.prog 74 #[.pointer (some ⟨a, 0, none⟩)] w fun e w' => e = .returned (.int .i64 l.length) ∧ w = w' := by
  obtain ⟨_, c1, _, _⟩ := hs.cells
  obtain ⟨p, c, rfl⟩ := hs.slice
  go_enter Try.func74, Try.ntmps74
  go_wp2
  go_ret
  exact ⟨rfl, rfl⟩
theorem wlen_nil (w : World) : Calls Try.prog 74 #[.pointer none] w fun e w' => e = .returned (.int .i64 0) ∧ w = w' := by
  go_enter Try.func74, Try.ntmps74
  go_wp2
  go_ret
  exact ⟨rfl, rfl⟩
end Go.Proofs.Ytfmamedkiaimpaa
