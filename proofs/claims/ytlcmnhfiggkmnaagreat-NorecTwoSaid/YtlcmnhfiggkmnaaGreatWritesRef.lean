/- The document's own set of writes (syncoperef8.Writes), each function with what it computes; Clear of the program's. -/
import Derived.Test.YtlcmnhfiggkmnaaGreatReadsRef
import Derived.Test.YtlcmnhfiggkmnaaGreatWritesList
namespace Go.Proofs.YtlcmnhfiggkmnaaGreat
open Go.RowKit
def just1 (a : Nat) : Nat → Prop := fun k => k = a
theorem wclearR_any (a : Nat) (v : Value) (room asked : Int) (l : List (Int × Int)) (w : World) (hs : WrAt w a v room l asked) :
    Calls Tryz.prog 34 #[.pointer (some ⟨a, 0, none⟩)] w fun e w' => e = .returned (.tuple #[]) ∧ WrAt w' a (.slice none 0 0) room [] 0 ∧ Keeps (just1 a) w w' := by
  obtain ⟨_, c1, c2, c3⟩ := hs.cells
  have f1 := blk_free hs.hd 1
  have f2 := blk_free hs.hd 2
  have f3 := blk_free hs.hd 3
  have HD := Lib.hid hs.hd
  clear hs
  go_enter Tryz.func34, Tryz.ntmps34
  go_wp2
  go_end0
  refine ⟨rfl, ⟨?_, World.ownsRow_nil _ _ _ _, by simp [Value.ownBlock], by simp⟩, (((Keeps.refl (just1 a) w).setCell (p := ⟨a, 1, none⟩) (fun _ => rfl) _).setCell (p := ⟨a, 2, none⟩) (fun _ => rfl) _).setCell (p := ⟨a, 3, none⟩) (fun _ => rfl) _⟩
  rw [blk_set (blk_set (blk_set HD.out 1 _) 2 _) 3 _]
  rfl
theorem wlen_in {w wr : World} {a : Nat} {room asked : Int} {l : List (Int × Int)} (h : WrIn w wr a room asked l) :
    Calls Tryz.prog 94 #[.pointer (some ⟨a, 0, none⟩)] wr fun e w' => e = .returned (.int .i64 l.length) ∧ wr = w' := by
  obtain ⟨v, h1, _⟩ := h
  exact wlen_any a v room asked l wr h1

/-- the document's own set at block a -/
structure FwAt (w : World) (a : Nat) (v : Value) (room asked : Int) (l : List (Int × Int)) : Prop where
  hd : w.heap[a]? = some (.cells #[.int .i64 room, .int .i64 asked, v] 72 (0, 0))
  ow : w.ownsRow 0 97 2 v l.length (flat l)
  ne : v.ownBlock ≠ some a
  small : l.length ≤ 4096
  nn : ∀ x ∈ l, 0 ≤ x.1
theorem FwAt.keep {w w' : World} {a : Nat} {v : Value} {room asked : Int} {l : List (Int × Int)} {S : Nat → Prop} (h : FwAt w a v room asked l) (k : Keeps S w w') (ha : ¬ S a) (hv : ∀ g, v.ownBlock = some g → ¬ S g) : FwAt w' a v room asked l :=
  ⟨k.blk h.hd ha, k.owns h.ow hv, h.ne, h.small, h.nn⟩
theorem FwAt.cells {w : World} {a : Nat} {v : Value} {room asked : Int} {l : List (Int × Int)} (h : FwAt w a v room asked l) :
    w.cell? ⟨a, 0, none⟩ = some (.int .i64 room) ∧ w.cell? ⟨a, 1, none⟩ = some (.int .i64 asked) ∧ w.cell? ⟨a, 2, none⟩ = some v :=
  ⟨by rw [blk_cell h.hd]; rfl, by rw [blk_cell h.hd]; rfl, by rw [blk_cell h.hd]; rfl⟩
theorem FwAt.slice {w : World} {a : Nat} {v : Value} {room asked : Int} {l : List (Int × Int)} (h : FwAt w a v room asked l) : ∃ p c, v = .slice p l.length c := owns_slice h.ow
theorem FwAt.sliceW {w : World} {a : Nat} {v : Value} {room asked : Int} {l : List (Int × Int)} (h : FwAt w a v room asked l) : SliceW w v l := by
  rcases owns_words h.ow with h1 | ⟨g, cap, h1, _, _, h4⟩
  · exact .inl h1
  · exact .inr ⟨g, cap, h1, h.small, h4⟩
theorem fpow_bit (q : Int) : IntKind.u64.wrap ((2 : Int) ^ (q % 64).toNat) = (bitAt q : Int) := by
  have hc : (2 : Int) ^ (q % 64).toNat = ((bitAt q : Nat) : Int) := by simp [bitAt]
  have := bitAt_lt q
  rw [hc, IntKind.wrap_u64]; omega
theorem filterOf_take (l : List (Int × Int)) (k : Nat) (h : k < l.length) : bits .or .u64 (filterOf (l.take k) : Int) (bitAt (l.getD k (0, 0)).1 : Int) = (filterOf (l.take (k + 1)) : Int) := by
  rw [bits_u64_or _ _ (filterOf_lt _) (bitAt_lt _), List.take_succ_eq_append_getElem h, filterOf_snoc, getD_at _ _ _ h]
set_option maxHeartbeats 400000 in
theorem ffilter_any (a : Nat) (v : Value) (room asked : Int) (l : List (Int × Int)) (w : World) (hs : FwAt w a v room asked l) :
    Calls Tryz.prog 83 #[.pointer (some ⟨a, 0, none⟩)] w fun e w' => e = .returned (.int .u64 (filterOf l : Int)) ∧ w = w' := by
  obtain ⟨_, _, c2⟩ := hs.cells
  have hsm := hs.small
  have HNN := Lib.hid hs.nn
  rcases owns_words hs.ow with ⟨rfl, rfl⟩ | ⟨g, cap, rfl, hgs, _, hcell⟩
  · clear hs
    go_enter Tryz.func83, Tryz.ntmps83
    go_wp2
    go_loop [3, 4] (fun f i => f = .int .u64 0 ∧ i = .int .i64 0) (fun _ _ => 0)
    case atStart => exact ⟨rfl, rfl⟩
    case round =>
      obtain ⟨rfl, rfl⟩ := hrel
      go_wp2
      go_ret
      exact ⟨rfl, rfl⟩
  · have Hc := Lib.hid hcell
    clear hcell hs
    go_enter Tryz.func83, Tryz.ntmps83
    go_wp2
    go_loop [3, 4] (fun f i => ∃ k : Nat, k ≤ l.length ∧ i = .int .i64 k ∧ f = .int .u64 (filterOf (l.take k) : Int)) (fun _ i => l.length - (intOf i).toNat)
    case atStart => exact ⟨0, by omega, rfl, rfl⟩
    case round =>
      obtain ⟨k, hk, rfl, rfl⟩ := hrel
      by_cases hlt : k < l.length
      · obtain ⟨d0, _⟩ := Hc.out k hlt
        have hq : 0 ≤ (l.getD k (0, 0)).1 := HNN.out _ (by rw [getD_at _ _ _ hlt]; exact List.getElem_mem _)
        have HF := Lib.hid (filterOf_take l k hlt)
        generalize (l.getD k (0, 0)).1 = q at *
        go_wp2
        go_round
        case rel => exact ⟨k + 1, by omega, by go_num, congrArg (Value.int .u64) (by rw [fpow_bit]; exact HF.out)⟩
        case measure => simp [intOf]; omega
      · have hf : l.take k = l := List.take_of_length_le (by omega)
        have Hf := Lib.hid hf
        clear hf
        go_wp2
        go_ret
        rw [Hf.out]
        exact ⟨rfl, rfl⟩
/-- the bit as the document asks it -/
theorem ftest_in (L : List (Int × Int)) (q : Int) : (((filterOf L : Int) / 2 ^ (q % 64).toNat).tmod 2 == 0) = !inFilter L q := by
  have e : ((filterOf L : Int) / 2 ^ (q % 64).toNat) = ((filterOf L / 2 ^ (q % 64).toNat : Nat) : Int) := by simp
  rw [e, Int.tmod_eq_emod_of_nonneg (Int.natCast_nonneg _), inFilter, Nat.testBit_eq_decide_div_mod_eq, Bool.eq_iff_iff]
  simp
  omega
theorem FwAt.asking {w : World} {a : Nat} {v : Value} {room asked : Int} {l : List (Int × Int)} (h : FwAt w a v room asked l) (z : Int) : FwAt (w.setCell ⟨a, 1, none⟩ (.int .i64 z)) a v room z l :=
  ⟨by rw [blk_set h.hd]; rfl, owns_setCell h.ow h.ne _, h.ne, h.small, h.nn⟩
set_option maxHeartbeats 400000 in
theorem fget_any (a : Nat) (v : Value) (room asked : Int) (l : List (Int × Int)) (k : Int) (w : World) (hs : FwAt w a v room asked l) :
    Calls Tryz.prog 47 #[.pointer (some ⟨a, 0, none⟩), .int .i64 k] w fun e w' => e = .returned (.tuple #[.int .i64 (getW l k), .bool (hasW l k)]) ∧ FwAt w' a v room (askedL l k asked) l ∧ Keeps (just1 a) w w' := by
  by_cases h0 : 0 ≤ k
  · have ht := ftest_in l k
    cases hf : inFilter l k with
    | false =>
      have hno : hasKey l k = false := by
        cases h : hasKey l k with
        | false => rfl
        | true => rw [inFilter_has l k h] at hf; cases hf
      have e1 : getW l k = 0 := by simp [getW, getL, hno]
      have e2 : hasW l k = false := by simp [hasW, hno]
      have e3 : askedL l k asked = asked := by simp [askedL, hf]
      rw [e1, e2, e3]
      rw [hf] at ht
      replace ht : (((filterOf l : Int) / 2 ^ (k % 64).toNat).tmod 2 == 0) = true := ht
      clear hf hno e1 e2 e3
      go_enter Tryz.func47, Tryz.ntmps47
      go_wp2_with (go_at_call 83; refine (ffilter_any a v room asked l _ hs).mono ?_; rintro e w1 ⟨rfl, rfl⟩)
      go_ret2
      exact ⟨rfl, hs, Keeps.refl _ _⟩
    | true =>
      have e3 : askedL l k asked = wrap64 (asked + 1) := by simp [askedL, hf, h0]
      have e1 : getW l k = getL l k := by simp [getW, h0]
      have e2 : hasW l k = hasKey l k := by simp [hasW, h0]
      rw [e1, e2, e3]
      rw [hf] at ht
      replace ht : (((filterOf l : Int) / 2 ^ (k % 64).toNat).tmod 2 == 0) = false := ht
      clear hf e1 e2 e3
      obtain ⟨c0, c1, c2⟩ := hs.cells
      have f1 := blk_free hs.hd 1
      have hask := hs.asking (wrap64 (asked + 1))
      have hsl := hask.sliceW
      have HA := Lib.hid hask
      obtain ⟨p, cp, hv⟩ := hs.slice
      cases hk : hasKey l k with
      | false =>
        have e4 : getL l k = 0 := by simp [getL, hk]
        rw [e4]
        have HF := Lib.hid (findL_eq_neg l k hk)
        clear e4 hk hask hv
        go_enter Tryz.func47, Tryz.ntmps47
        go_wp2_with (first
          | (go_at_call 83; refine (ffilter_any a v room asked l _ hs).mono ?_; rintro e w1 ⟨rfl, rfl⟩)
          | (go_at_call 84; refine (kfind_any v l k _ hsl).mono ?_; rw [HF.out]; rintro e w2 ⟨rfl, rfl⟩))
        go_ret2
        exact ⟨rfl, HA.out, (Keeps.refl (just1 a) w).setCell (p := ⟨a, 1, none⟩) (fun _ => rfl) _⟩
      | true =>
        obtain ⟨i, hfi, hi, hki⟩ := findL_at l k hk
        have e4 : getL l k = (l.getD i (0, 0)).2 := by simp [getL, hk, hfi]
        rw [e4]
        rcases owns_words hs.ow with ⟨rfl, rfl⟩ | ⟨g, cap, rfl, hgs, _, hcell⟩
        · simp at hi
        have hga : g ≠ a := fun e => hs.ne (by rw [e]; rfl)
        have d1 := (hcell i hi).2
        have HF := Lib.hid hfi
        clear e4 hk hask hv hfi hki hcell
        generalize (l.getD i (0, 0)).2 = y at *
        go_enter Tryz.func47, Tryz.ntmps47
        go_wp2_with (first
          | (go_at_call 83; refine (ffilter_any a _ room asked l _ hs).mono ?_; rintro e w1 ⟨rfl, rfl⟩)
          | (go_at_call 84; refine (kfind_any _ l k _ hsl).mono ?_; rw [HF.out]; rintro e w2 ⟨rfl, rfl⟩))
        go_ret2
        exact ⟨rfl, HA.out, (Keeps.refl (just1 a) w).setCell (p := ⟨a, 1, none⟩) (fun _ => rfl) _⟩
  · have e1 : getW l k = 0 := by simp [getW, h0]
    have e2 : hasW l k = false := by simp [hasW, h0]
    have e3 : askedL l k asked = asked := by simp [askedL, h0]
    rw [e1, e2, e3]
    clear e1 e2 e3
    have h0 : k < 0 := by omega
    go_enter Tryz.func47, Tryz.ntmps47
    go_wp2
    go_ret2
    exact ⟨rfl, hs, Keeps.refl _ _⟩
/-- a word is written anew -/
theorem FwAt.stored {w : World} {a g n c : Nat} {room asked : Int} {l : List (Int × Int)} (h : FwAt w a (.slice (some ⟨g, 0, none⟩) n c) room asked l) (i : Nat) (k x : Int) (hi : i < l.length) (hk : (l.getD i (0, 0)).1 = k) :
    FwAt (w.setCell ⟨g, i * 2 + 1, none⟩ (.int .i64 x)) a (.slice (some ⟨g, 0, none⟩) n c) room asked (l.set i (k, x)) := by
  have hn : n = l.length := by
    obtain ⟨p, c', hv⟩ := h.slice
    simp only [Value.slice.injEq] at hv
    exact hv.2.1
  subst hn
  have hga : g ≠ a := fun e => h.ne (by rw [e]; rfl)
  refine ⟨?_, ?_, h.ne, by simpa using h.small, ?_⟩
  · rw [Below.heap_setCell _ _ _ _ (fun e => hga e.symm)]; exact h.hd
  · have := (h.ow.stored (i * 2 + 1) (.int .i64 x)).1
    rw [flat_set l i k x hi hk, List.length_set]
    exact this
  · intro y hy
    rcases List.mem_or_eq_of_mem_set hy with h1 | rfl
    · exact h.nn y h1
    · rw [getD_at _ _ _ hi] at hk
      have := h.nn _ (List.getElem_mem hi)
      rw [hk] at this; exact this
set_option maxHeartbeats 400000 in
theorem fwput_has (a : Nat) (v : Value) (room asked : Int) (l : List (Int × Int)) (k x : Int) (w : World) (hs : FwAt w a v room asked l) (h0 : 0 ≤ k) (h : hasKey l k = true) :
    Calls Tryz.prog 51 #[.pointer (some ⟨a, 0, none⟩), .int .i64 k, .int .i64 x] w fun e w' => e = .returned (.bool true) ∧ FwAt w' a v room asked (l.set (findL l k).toNat (k, x)) ∧ Keeps (own2 a v) w w' := by
  obtain ⟨i, hf, hi, hk⟩ := findL_at l k h
  have hsm := hs.small
  rw [hf]
  have HF := Lib.hid hf
  clear h hf
  obtain ⟨c0, c1, c2⟩ := hs.cells
  have hsl := hs.sliceW
  rcases owns_words hs.ow with ⟨rfl, rfl⟩ | ⟨g, cap, rfl, hgs, hfr, hcell⟩
  · simp at hi
  have e1 := (hcell i hi).2
  have e2 := hfr (i * 2 + 1)
  have HK := Lib.hid hk
  have hd1 : decide (k < 0) = false := decide_eq_false (by omega)
  have hd2 : decide ((i : Int) < 0) = false := decide_eq_false (by omega)
  clear hk hfr hcell
  go_enter Tryz.func51, Tryz.ntmps51
  go_wp2_with (go_at_call 84; refine (kfind_any _ l k _ hsl).mono ?_; rw [HF.out]; rintro e w2 ⟨rfl, rfl⟩)
  go_quiet (fail)
  go_wp2
  go_ret
  refine ⟨rfl, ?_, ?_⟩
  · rw [Int.toNat_natCast]
    exact (hs.keep ((Keeps.refl NoS _).drewN _) (fun f => f) (fun _ _ f => f)).stored i k x hi HK.out
  · exact ((Keeps.refl (own2 a _) w).drewN _).setCell (p := ⟨g, i * 2 + 1, none⟩) (fun _ => .inr rfl) _
theorem fwput_no (a : Nat) (v : Value) (room asked : Int) (l : List (Int × Int)) (k x : Int) (w : World) (hs : FwAt w a v room asked l) (h0 : 0 ≤ k) (h : hasKey l k = false) (h2 : room ≤ (l.length : Int)) :
    Calls Tryz.prog 51 #[.pointer (some ⟨a, 0, none⟩), .int .i64 k, .int .i64 x] w fun e w' => e = .returned (.bool false) ∧ Keeps NoS w w' := by
  have HF := Lib.hid (findL_eq_neg l k h)
  clear h
  obtain ⟨c0, c1, c2⟩ := hs.cells
  have hsl := hs.sliceW
  obtain ⟨p, cp, rfl⟩ := hs.slice
  have hd1 : decide (k < 0) = false := decide_eq_false (by omega)
  have hd : decide (room ≤ (l.length : Int)) = true := by simpa using h2
  clear hs
  go_enter Tryz.func51, Tryz.ntmps51
  go_wp2_with (go_at_call 84; refine (kfind_any _ l k _ hsl).mono ?_; rw [HF.out]; rintro e w2 ⟨rfl, rfl⟩)
  go_quiet (fail)
  go_wp2
  go_ret
  exact ⟨rfl, (Keeps.refl _ _).drewN _⟩
theorem fwput_neg (a : Nat) (v : Value) (room asked : Int) (l : List (Int × Int)) (k x : Int) (w : World) (hs : FwAt w a v room asked l) (h0 : k < 0) :
    Calls Tryz.prog 51 #[.pointer (some ⟨a, 0, none⟩), .int .i64 k, .int .i64 x] w fun e w' => e = .returned (.bool false) ∧ Keeps NoS w w' := by
  obtain ⟨c0, c1, c2⟩ := hs.cells
  have hsl := hs.sliceW
  have hd : decide (k < 0) = true := by simpa using h0
  clear hs
  go_enter Tryz.func51, Tryz.ntmps51
  go_wp2_with (go_at_call 84; refine (kfind_any _ l k _ hsl).mono ?_; rintro e w2 ⟨rfl, rfl⟩)
  go_quiet (fail)
  go_wp2
  go_ret
  exact ⟨rfl, (Keeps.refl _ _).drewN _⟩
theorem fw_put {w w3 : World} {a : Nat} {v v' : Value} {room asked : Int} {l : List (Int × Int)} {k : Int} {o : Obj} (hs : FwAt w a v room asked l) (hk : 0 ≤ k) (hsm : l.length < 4096)
    (hown : w3.ownsRow 0 97 2 v' (l.length + 1) (flat l ++ [.int .i64 k, .int .i64 0])) (hgr : (w.alloc o).grownBy w3 v.ownBlock) (hob : ∀ g, v'.ownBlock = some g → v.ownBlock = some g ∨ g = (w.alloc o).heap.size) :
    FwAt (w3.setCell ⟨a, 2, none⟩ v') a v' room asked (l ++ [(k, 0)]) ∧ Keeps (own2 a v) w (w3.setCell ⟨a, 2, none⟩ v') ∧
      (∀ g, v'.ownBlock = some g → v.ownBlock = some g ∨ w.heap.size ≤ g) ∧ w3.heap[a]? = some (.cells #[.int .i64 room, .int .i64 asked, v] 72 (0, 0)) ∧ v'.ownBlock ≠ some a := by
  have ha : w3.heap[a]? = some (.cells #[.int .i64 room, .int .i64 asked, v] 72 (0, 0)) := by
    rw [hgr.block a (by have := blk_lt hs.hd; simp; omega) (fun e => hs.ne e.symm), Below.heap_alloc _ _ _ (blk_lt hs.hd)]
    exact hs.hd
  have hne : v'.ownBlock ≠ some a := fun e => by
    rcases hob a e with h | h
    · exact hs.ne h
    · have := blk_lt hs.hd; simp at h; omega
  refine ⟨⟨by rw [blk_set ha]; rfl, ?_, hne, by simp; omega, ?_⟩, ?_, fun g hg => ?_, ha, hne⟩
  · rw [flat_snoc, List.length_append]
    exact owns_setCell hown hne _
  · intro x hx
    rcases List.mem_append.1 hx with h | h
    · exact hs.nn x h
    · simp at h; rw [h]; exact hk
  · exact (((Keeps.refl _ _).alloc _).grown hgr (fun k hk _ => .inr hk)).setCell (fun _ => .inl rfl) _
  · rcases hob g hg with h | h
    · exact .inl h
    · right; simp at h; omega
theorem set_last (l : List (Int × Int)) (a b : Int × Int) : (l ++ [a]).set l.length b = l ++ [b] := by
  rw [List.set_append_right _ _ (Nat.le_refl _)]; simp
theorem owns_cell2 {w : World} {v : Value} {l : List (Int × Int)} {n : Nat} {k : Int} (h : w.ownsRow 0 97 2 v (n + 1) (flat l ++ [.int .i64 k, .int .i64 0])) (hn : l.length = n) :
    ∃ g c, v = .slice (some ⟨g, 0, none⟩) (n + 1) c ∧ w.cell? ⟨g, n * 2 + 1, none⟩ = some (.int .i64 0) ∧ (∀ j, w.frozen? ⟨g, j, none⟩ = false) ∧ g < w.heap.size := by
  rcases h.2 with ⟨_, hz⟩ | ⟨g, cap, cur, rfl, _, hg, _⟩
  · omega
  · refine ⟨g, cap, rfl, ?_, blk_free hg, blk_lt hg⟩
    have := h.cells (g := g) rfl (n * 2 + 1) (.int .i64 0) (by rw [List.getElem?_append_right (by rw [flat_len]; omega), flat_len, hn, show n * 2 + 1 - n * 2 = 1 by omega]; rfl)
    rwa [add_zero_off] at this
set_option maxHeartbeats 1000000 in
set_option maxRecDepth 100000 in
theorem fwput_new (a : Nat) (v : Value) (room asked : Int) (l : List (Int × Int)) (k x : Int) (w : World) (hs : FwAt w a v room asked l) (h0 : 0 ≤ k) (h : hasKey l k = false) (h2 : (l.length : Int) < room) (hsm : l.length < 4096) :
    Calls Tryz.prog 51 #[.pointer (some ⟨a, 0, none⟩), .int .i64 k, .int .i64 x] w fun e w' => e = .returned (.bool true) ∧
      ∃ v', FwAt w' a v' room asked (l ++ [(k, x)]) ∧ Keeps (own2 a v) w w' ∧ ∀ g, v'.ownBlock = some g → v.ownBlock = some g ∨ w.heap.size ≤ g := by
  have HF := Lib.hid (findL_eq_neg l k h)
  clear h
  obtain ⟨i0, hi, hz0, hz1, hz2⟩ := info_parts infoWord
  obtain ⟨c0, c1, c2⟩ := hs.cells
  have hsl := hs.sliceW
  obtain ⟨p, cp, rfl⟩ := hs.slice
  have hd1 : decide (k < 0) = false := decide_eq_false (by omega)
  have hd2 : decide (room ≤ (l.length : Int)) = false := decide_eq_false (by omega)
  have d2 : ∀ u ∈ [Value.int .i64 k, .int .i64 0], u.oneCell' = true := by simp [Value.oneCell']
  have D2 := Lib.hid d2
  have b3 : l.length + 1 ≤ maxLen := by unfold maxLen; omega
  clear d2
  go_enter Tryz.func51, Tryz.ntmps51
  go_wp2_with (go_at_call 84; refine (kfind_any _ l k _ hsl).mono ?_; rw [HF.out]; rintro e w2 ⟨rfl, rfl⟩)
  go_quiet (fail)
  have hsd := hs.keep ((Keeps.refl NoS _).drewN nq) (fun f => f) (fun _ _ f => f)
  have HSD := Lib.hid hsd
  clear hsd hd1 hd2 hs hsl
  go_wp2_with (at_builtin; refine wpList_append_fp _ rfl _ _ 65 rfl 97 i0 (.agg #[.int .i64 0, .int .i64 0]) 2 16 Tryz.underlying65 hi hz0 hz1 hz2 rfl (by decide) (.slice p l.length cp) l.length (flat l) rfl (HSD.out.ow.alloc _) ⟨_, 0, none⟩ 1 1 [.int .i64 k, .int .i64 0] rfl rfl (cells_new _ _ _) D2.out b3 (by omega) ?_; intro v' w3 hown hgr hob; have hput := fw_put HSD.out h0 hsm hown hgr hob; have e0 := hput.2.2.2.1; have e1 : w3.cell? ⟨a, 2, none⟩ = some (.slice p l.length cp) := (by rw [blk_cell e0]; rfl); have e2 := blk_free e0 2; obtain ⟨g, c', rfl, g1, g2, g3⟩ := owns_cell2 hown rfl; have g4 := g2 (l.length * 2 + 1); have hga : g ≠ a := (fun e => hput.2.2.2.2 (by rw [e]; rfl)); have HP := Lib.hid hput; clear e0 hown hgr hob g2 hput)
  go_ret
  have hst := HP.out.1.stored l.length k x (by simp) (by rw [getD_at _ _ _ (by simp)]; simp)
  rw [set_last] at hst
  refine ⟨rfl, _, hst, ?_, fun q hq => HP.out.2.2.1 q hq⟩
  have k1 := ((Keeps.refl (own2 a (.slice p l.length cp)) w).drewN nq).trans HP.out.2.1
  refine k1.setCell (p := ⟨g, l.length * 2 + 1, none⟩) (fun hlt => ?_) _
  rcases HP.out.2.2.1 g rfl with h | h
  · exact .inr h
  · have : g < w.heap.size := hlt
    have : w.heap.size ≤ g := h
    omega
theorem fwput_any (a : Nat) (v : Value) (room asked : Int) (l : List (Int × Int)) (k x : Int) (w : World) (hs : FwAt w a v room asked l) (hsm : l.length < 4096) :
    Calls Tryz.prog 51 #[.pointer (some ⟨a, 0, none⟩), .int .i64 k, .int .i64 x] w fun e w' => e = .returned (.bool (putOk room l k)) ∧
      ∃ v', FwAt w' a v' room asked (putW room l k x) ∧ Keeps (own2 a v) w w' ∧ ∀ g, v'.ownBlock = some g → v.ownBlock = some g ∨ w.heap.size ≤ g := by
  by_cases h0 : k < 0
  · rw [show putOk room l k = false by simp [putOk]; omega, show putW room l k x = l by simp [putW, h0]]
    exact (fwput_neg a v room asked l k x w hs h0).mono fun e w' ⟨he, hk⟩ => ⟨he, v, hs.keep hk (fun f => f) (fun _ _ f => f), hk.no, fun g hg => .inl hg⟩
  · have h0 : 0 ≤ k := by omega
    have hn : ¬ k < 0 := by omega
    cases h : hasKey l k with
    | true =>
      rw [show putOk room l k = true by simp [putOk, h, h0], show putW room l k x = l.set (findL l k).toNat (k, x) by simp [putW, hn, h]]
      exact (fwput_has a v room asked l k x w hs h0 h).mono fun e w' ⟨he, hk, hkp⟩ => ⟨he, v, hk, hkp, fun g hg => .inl hg⟩
    | false =>
      by_cases h2 : (l.length : Int) < room
      · rw [show putOk room l k = true by simp [putOk, h0, h2], show putW room l k x = l ++ [(k, x)] by simp [putW, hn, h, h2]]
        exact fwput_new a v room asked l k x w hs h0 h h2 hsm
      · rw [show putOk room l k = false by simp [putOk, h, h2], show putW room l k x = l by simp [putW, hn, h, h2]]
        exact (fwput_no a v room asked l k x w hs h0 h (by omega)).mono fun e w' ⟨he, hk⟩ => ⟨he, v, hs.keep hk (fun f => f) (fun _ _ f => f), hk.no, fun g hg => .inl hg⟩
end Go.Proofs.YtlcmnhfiggkmnaaGreat
