/- The functions of package writes, each with what it computes and what it does to memory. -/
import Derived.Test.YtlcmnhfiggkmnaaGreatReadsPut
import Derived.Test.YtlcmnhfiggkmnaaGreatFindL
import Derived.Test.YtlcmnhfiggkmnaaGreatBits
import Derived.StillTailTactics
namespace Go.Proofs.YtlcmnhfiggkmnaaGreat
open Go.RowKit

/-- a place's bit, as a number -/
def bitAt (k : Int) : Nat := 2 ^ (k % 64).toNat
theorem bitAt_lt (k : Int) : bitAt k < 18446744073709551616 := by
  have h1 := Int.emod_lt_of_pos k (show (0 : Int) < 64 by decide)
  have : bitAt k ≤ 2 ^ 63 := Nat.pow_le_pow_right (by decide) (by omega)
  have e : (2 : Nat) ^ 63 = 9223372036854775808 := by decide
  omega
def filterOf (l : List (Int × Int)) : Nat := l.foldl (fun f x => f ||| bitAt x.1) 0
theorem filterOf_snoc (l : List (Int × Int)) (x : Int × Int) : filterOf (l ++ [x]) = filterOf l ||| bitAt x.1 := by simp [filterOf]
theorem or_lt64 {a b : Nat} (ha : a < 18446744073709551616) (hb : b < 18446744073709551616) : a ||| b < 18446744073709551616 := Nat.or_lt_two_pow (n := 64) ha hb
theorem snoc_induct {α : Type} {p : List α → Prop} (l : List α) (h0 : p []) (hs : ∀ (l : List α) (x : α), p l → p (l ++ [x])) : p l := by
  have : ∀ m : List α, p m.reverse := by
    intro m
    induction m with
    | nil => exact h0
    | cons x m ih => rw [List.reverse_cons]; exact hs _ _ ih
  simpa using this l.reverse
theorem filterOf_lt (l : List (Int × Int)) : filterOf l < 18446744073709551616 := by
  induction l using snoc_induct with
  | h0 => decide
  | hs l x ih => rw [filterOf_snoc]; exact or_lt64 ih (bitAt_lt _)
theorem bitAt_test (k : Int) (i : Nat) : (bitAt k).testBit i = decide ((k % 64).toNat = i) := by simp [bitAt, Nat.testBit_two_pow]
theorem filterOf_test (l : List (Int × Int)) (i : Nat) : (filterOf l).testBit i = l.any fun x => decide ((x.1 % 64).toNat = i) := by
  induction l using snoc_induct with
  | h0 => simp [filterOf]
  | hs l x ih => rw [filterOf_snoc, Nat.testBit_or, ih, bitAt_test]; simp
/-- does the filter have a place's bit? -/
def inFilter (l : List (Int × Int)) (k : Int) : Bool := (filterOf l).testBit (k % 64).toNat
theorem and_bit (l : List (Int × Int)) (k : Int) : filterOf l &&& bitAt k = if inFilter l k then bitAt k else 0 := by
  apply Nat.eq_of_testBit_eq
  intro i
  rw [Nat.testBit_and, bitAt_test, inFilter]
  by_cases h : (k % 64).toNat = i
  · subst h
    cases hb : (filterOf l).testBit (k % 64).toNat <;> simp [bitAt_test]
  · simp only [h, decide_false, Bool.and_false]
    split
    · rw [bitAt_test]; simp [h]
    · simp
theorem inFilter_has (l : List (Int × Int)) (k : Int) (h : hasKey l k = true) : inFilter l k = true := by
  simp only [hasKey, List.any_eq_true] at h
  obtain ⟨x, hx, hk⟩ := h
  rw [inFilter, filterOf_test, List.any_eq_true]
  exact ⟨x, hx, by have : x.1 = k := by simpa using hk
                   rw [this]; simp⟩
theorem bits_u64_and (a b : Nat) (ha : a < 18446744073709551616) (hb : b < 18446744073709551616) : bits .and .u64 (a : Int) (b : Int) = ((a &&& b : Nat) : Int) := by
  have h : bits .and .u64 (a : Int) (b : Int) = IntKind.u64.wrap (((BitVec.ofInt 64 (a : Int)).toNat &&& (BitVec.ofInt 64 (b : Int)).toNat : Nat) : Int) :=
    congrArg (fun n : Nat => IntKind.u64.wrap (n : Int)) (BitVec.toNat_and _ _)
  have e1 : (BitVec.ofInt 64 (a : Int)).toNat = a := by have := toNat_ofInt64 (a : Int); omega
  have e2 : (BitVec.ofInt 64 (b : Int)).toNat = b := by have := toNat_ofInt64 (b : Int); omega
  rw [h, e1, e2, IntKind.wrap_u64]
  have := Nat.and_lt_two_pow (n := 64) a hb
  have e : (2 : Nat) ^ 64 = 18446744073709551616 := by decide
  omega
theorem bits_u64_or (a b : Nat) (ha : a < 18446744073709551616) (hb : b < 18446744073709551616) : bits .or .u64 (a : Int) (b : Int) = ((a ||| b : Nat) : Int) := by
  have h : bits .or .u64 (a : Int) (b : Int) = IntKind.u64.wrap (((BitVec.ofInt 64 (a : Int)).toNat ||| (BitVec.ofInt 64 (b : Int)).toNat : Nat) : Int) :=
    congrArg (fun n : Nat => IntKind.u64.wrap (n : Int)) (BitVec.toNat_or _ _)
  have e1 : (BitVec.ofInt 64 (a : Int)).toNat = a := by have := toNat_ofInt64 (a : Int); omega
  have e2 : (BitVec.ofInt 64 (b : Int)).toNat = b := by have := toNat_ofInt64 (b : Int); omega
  rw [h, e1, e2, IntKind.wrap_u64]
  have := or_lt64 ha hb
  omega

theorem bit_any (k : Int) (w : World) : Calls Tryz.prog 79 #[.int .i64 k] w fun e w' => e = .returned (.int .u64 (bitAt k : Int)) ∧ w = w' := by
  have e := and_63 k
  have h0 := Int.emod_nonneg k (show (64 : Int) ≠ 0 by decide)
  have h1 := Int.emod_lt_of_pos k (show (0 : Int) < 64 by decide)
  have HE : IntKind.u64.wrap ((2 : Int) ^ (k % 64).toNat) = (bitAt k : Int) := by
    have hc : (2 : Int) ^ (k % 64).toNat = ((bitAt k : Nat) : Int) := by simp [bitAt]
    have := bitAt_lt k
    rw [hc, IntKind.wrap_u64]; omega
  go_enter Tryz.func79, Tryz.ntmps79
  go_wp2
  go_ret
  exact ⟨rfl, rfl⟩

/-- a slice of words that something owns, as the walks read it -/
theorem owns_words {w : World} {v : Value} {l : List (Int × Int)} (h : w.ownsRow 0 97 2 v l.length (flat l)) :
    (v = .slice none 0 0 ∧ l = []) ∨ ∃ g cap, v = .slice (some ⟨g, 0, none⟩) l.length cap ∧ g < w.heap.size ∧ (∀ j, w.frozen? ⟨g, j, none⟩ = false) ∧
      (∀ k, k < l.length → w.cell? ⟨g, k * 2, none⟩ = some (.int .i64 (l.getD k (0, 0)).1) ∧ w.cell? ⟨g, k * 2 + 1, none⟩ = some (.int .i64 (l.getD k (0, 0)).2)) := by
  rcases h.2 with ⟨hv, hn⟩ | ⟨g, cap, cur, hv, hb, hg, hn, hm, hs, ht⟩
  · exact .inl ⟨hv, List.eq_nil_of_length_eq_zero hn⟩
  · refine .inr ⟨g, cap, hv, blk_lt hg, blk_free hg, fun k hk => ?_⟩
    have hf := flat_at l k hk
    rw [blk_cell hg, blk_cell hg]
    rw [← ht] at hf
    constructor
    · have := hf.1; rw [List.getElem?_take, if_pos (by omega)] at this; simpa using this
    · have := hf.2; rw [List.getElem?_take, if_pos (by omega)] at this; simpa using this

/-- a writes.Set at block a: its room, its words in order, how often it was asked; the words' slice is v -/
structure WrAt (w : World) (a : Nat) (v : Value) (room : Int) (l : List (Int × Int)) (asked : Int) : Prop where
  hd : w.heap[a]? = some (.cells #[.int .i64 room, v, .int .u64 (filterOf l : Int), .int .i64 asked] 110 (0, 0))
  ow : w.ownsRow 0 97 2 v l.length (flat l)
  ne : v.ownBlock ≠ some a
  small : l.length ≤ 4096
theorem WrAt.keep {w w' : World} {a : Nat} {v : Value} {room asked : Int} {l : List (Int × Int)} {S : Nat → Prop} (h : WrAt w a v room l asked) (k : Keeps S w w') (ha : ¬ S a) (hv : ∀ g, v.ownBlock = some g → ¬ S g) : WrAt w' a v room l asked :=
  ⟨k.blk h.hd ha, k.owns h.ow hv, h.ne, h.small⟩
theorem WrAt.cells {w : World} {a : Nat} {v : Value} {room asked : Int} {l : List (Int × Int)} (h : WrAt w a v room l asked) :
    w.cell? ⟨a, 0, none⟩ = some (.int .i64 room) ∧ w.cell? ⟨a, 1, none⟩ = some v ∧ w.cell? ⟨a, 2, none⟩ = some (.int .u64 (filterOf l : Int)) ∧ w.cell? ⟨a, 3, none⟩ = some (.int .i64 asked) :=
  ⟨by rw [blk_cell h.hd]; rfl, by rw [blk_cell h.hd]; rfl, by rw [blk_cell h.hd]; rfl, by rw [blk_cell h.hd]; rfl⟩
theorem WrAt.slice {w : World} {a : Nat} {v : Value} {room asked : Int} {l : List (Int × Int)} (h : WrAt w a v room l asked) : ∃ p c, v = .slice p l.length c := owns_slice h.ow

theorem find_lemmas (l : List (Int × Int)) (k : Int) : bits .and .u64 (filterOf l : Int) (bitAt k : Int) = if inFilter l k then (bitAt k : Int) else 0 := by
  rw [bits_u64_and _ _ (filterOf_lt l) (bitAt_lt k), and_bit]
  split <;> simp
theorem bitAt_pos (k : Int) : (bitAt k : Int) ≠ 0 := by
  have : 0 < bitAt k := Nat.two_pow_pos _
  omega
set_option maxHeartbeats 400000 in
theorem wfind_any (a : Nat) (v : Value) (room asked : Int) (l : List (Int × Int)) (key : Int) (w : World) (hs : WrAt w a v room l asked) :
    Calls Tryz.prog 80 #[.pointer (some ⟨a, 0, none⟩), .int .i64 key] w fun e w' => e = .returned (.int .i64 (findL l key)) ∧ Keeps NoS w w' := by
  obtain ⟨c0, c1, c2, c3⟩ := hs.cells
  have hsm := hs.small
  have hb0 := find_lemmas l key
  cases hf : inFilter l key with
  | false =>
    have hn : findL l key = -1 := findL_none l key (fun x hx e => by
      have : inFilter l key = true := inFilter_has l key (by simp only [hasKey, List.any_eq_true]; exact ⟨x, hx, by simpa using e⟩)
      rw [hf] at this; cases this)
    rw [hf] at hb0
    rw [hn]
    have hb0 : bits .and .u64 (filterOf l : Int) (bitAt key : Int) = 0 := hb0
    clear hn hf hs
    generalize (filterOf l : Int) = F at *
    go_enter Tryz.func80, Tryz.ntmps80
    go_wp2
    go_region_held3 (fun w' => w'.cell? ⟨a, 2, none⟩ = some (.int .u64 F)) (exact c2) (first | (go_at_call 79; refine (bit_any key _).mono ?_; rintro e w' ⟨rfl, rfl⟩))
    go_wp2
    go_ret
    exact ⟨rfl, (Keeps.refl _ _).drew⟩
  | true =>
    rw [hf] at hb0
    have hb1 : (bits .and .u64 (filterOf l : Int) (bitAt key : Int) == 0) = false := by
      rw [hb0]; simpa using bitAt_pos key
    clear hb0 hf
    rcases owns_words hs.ow with ⟨rfl, rfl⟩ | ⟨g, cap, rfl, hgs, _, hcell⟩
    · clear hs
      have hb1 : (bits .and .u64 ((filterOf [] : Nat) : Int) (bitAt key : Int) == 0) = false := hb1
      generalize ((filterOf [] : Nat) : Int) = F at *
      go_enter Tryz.func80, Tryz.ntmps80
      go_wp2
      go_region_held3 (fun w' => w'.cell? ⟨a, 2, none⟩ = some (.int .u64 F)) (exact c2) (first | (go_at_call 79; refine (bit_any key _).mono ?_; rintro e w' ⟨rfl, rfl⟩))
      have d1 : w.drew.cell? ⟨a, 1, none⟩ = some (.slice none 0 0) := c1
      go_wp2
      go_loop [19] (fun i => i = .int .i64 0) (fun _ => 0)
      case atStart => rfl
      case round =>
        subst hrel
        go_wp2
        go_ret
        exact ⟨rfl, (Keeps.refl _ _).drew⟩
    · have Hc := Lib.hid hcell
      clear hcell hs
      generalize (filterOf l : Int) = F at *
      go_enter Tryz.func80, Tryz.ntmps80
      go_wp2
      go_region_held3 (fun w' => w'.cell? ⟨a, 2, none⟩ = some (.int .u64 F)) (exact c2) (first | (go_at_call 79; refine (bit_any key _).mono ?_; rintro e w' ⟨rfl, rfl⟩))
      have d1 : w.drew.cell? ⟨a, 1, none⟩ = some (.slice (some ⟨g, 0, none⟩) l.length cap) := c1
      go_wp2
      go_loopw [19] (fun i wr => ∃ k : Nat, k ≤ l.length ∧ i = .int .i64 k ∧ (∀ x ∈ l.take k, x.1 ≠ key) ∧ wr = w.drew) (fun i _ => l.length - (intOf i).toNat)
      case atStart => exact ⟨0, by omega, rfl, by simp, rfl⟩
      case round =>
        obtain ⟨k, hk, rfl, hno, rfl⟩ := hrel
        by_cases hlt : k < l.length
        · have e0 : w.drew.cell? ⟨g, k * 2, none⟩ = some (.int .i64 (l.getD k (0, 0)).1) := (Hc.out k hlt).1
          have hno' := any_take_succ l key k hlt hno
          have hfs : (l.getD k (0, 0)).1 = key → findL l key = (k : Int) := fun h => findL_some l key k hlt h hno
          have Hno' := Lib.hid hno'; have Hfs := Lib.hid hfs; have Hno := Lib.hid hno
          clear hno' hfs hno
          generalize (l.getD k (0, 0)).1 = x at *
          go_wp2
          · have hb : (x == key) = true := by assumption
            go_ret
            exact ⟨retI (Hfs.out (by simpa using hb)).symm, (Keeps.refl _ _).drew⟩
          · have hb : (x == key) = false := by assumption
            go_roundw
            case rel => exact ⟨k + 1, by omega, by go_num, Hno'.out (by simpa using hb), trivial⟩
            case measure => simp [intOf]; omega
        · have hf : findL l key = -1 := findL_none l key (fun x hx => hno x (by rw [List.take_of_length_le (by omega)]; exact hx))
          have Hf := Lib.hid hf
          clear hf hno
          go_wp2
          go_ret
          exact ⟨retI Hf.out.symm, (Keeps.refl _ _).drew⟩
end Go.Proofs.YtlcmnhfiggkmnaaGreat
namespace Go.Proofs.YtlcmnhfiggkmnaaGreat
open Go.RowKit
theorem wput_nil (k x : Int) (w : World) : Calls Tryz.prog 50 #[.pointer none, .int .i64 k, .int .i64 x] w fun e w' => e = .returned (.bool false) ∧ w = w' := by
  go_enter Tryz.func50, Tryz.ntmps50
  go_wp2
  go_ret
  exact ⟨rfl, rfl⟩
theorem wput_neg (a : Nat) (k x : Int) (w : World) (h : k < 0) : Calls Tryz.prog 50 #[.pointer (some ⟨a, 0, none⟩), .int .i64 k, .int .i64 x] w fun e w' => e = .returned (.bool false) ∧ w = w' := by
  go_enter Tryz.func50, Tryz.ntmps50
  go_wp2
  go_ret
  exact ⟨rfl, rfl⟩
theorem findL_eq_neg (l : List (Int × Int)) (k : Int) (h : hasKey l k = false) : findL l k = -1 :=
  findL_none l k fun x hx e => by
    have : hasKey l k = true := by simp only [hasKey, List.any_eq_true]; exact ⟨x, hx, by simpa using e⟩
    rw [h] at this; cases this
theorem findL_at (l : List (Int × Int)) (k : Int) (h : hasKey l k = true) : ∃ i : Nat, findL l k = (i : Int) ∧ i < l.length ∧ (l.getD i (0, 0)).1 = k := by
  have h0 := (findL_has l k).1.2 h
  unfold findL at h0 ⊢
  cases hf : l.findIdx? (fun x => x.1 == k) with
  | none => rw [hf] at h0; simp at h0
  | some i =>
    obtain ⟨hi, hx, _⟩ := List.findIdx?_eq_some_iff_getElem.1 hf
    exact ⟨i, rfl, hi, by rw [getD_at _ _ _ hi]; simpa using hx⟩
theorem wput_full (a : Nat) (v : Value) (room asked : Int) (l : List (Int × Int)) (k x : Int) (w : World) (hs : WrAt w a v room l asked) (h0 : 0 ≤ k) (h : hasKey l k = false) (h2 : room ≤ (l.length : Int)) :
    Calls Tryz.prog 50 #[.pointer (some ⟨a, 0, none⟩), .int .i64 k, .int .i64 x] w fun e w' => e = .returned (.bool false) ∧ Keeps NoS w w' := by
  have hf := findL_eq_neg l k h
  have hsm := hs.small
  have HF := Lib.hid hf
  clear h hf
  go_enter Tryz.func50, Tryz.ntmps50
  go_wp2_with (go_at_call 80; refine (wfind_any a v room asked l k _ hs).mono ?_; rw [HF.out]; rintro e w1 ⟨rfl, hk1⟩; have hs1 := hs.keep hk1 (fun f => f) (fun _ _ f => f); obtain ⟨c0, c1, _, _⟩ := hs1.cells; obtain ⟨p, c, rfl⟩ := hs1.slice)
  go_quiet (fail)
  go_wp2
  go_ret
  exact ⟨rfl, (hk1.drewN _)⟩

theorem filterOf_map (l : List (Int × Int)) : filterOf l = (l.map Prod.fst).foldl (fun f k => f ||| bitAt k) 0 := by
  rw [filterOf, List.foldl_map]
theorem filterOf_set (l : List (Int × Int)) (i : Nat) (k x : Int) (hi : i < l.length) (h : (l.getD i (0, 0)).1 = k) : filterOf (l.set i (k, x)) = filterOf l := by
  rw [filterOf_map, filterOf_map, List.map_set]
  congr 1
  rw [getD_at _ _ _ hi] at h
  apply List.ext_getElem (by simp)
  intro j h1 h2
  rw [List.getElem_set]
  split
  · next e => subst e; simp [h]
  · rfl
theorem flat_set (l : List (Int × Int)) (i : Nat) (k x : Int) (hi : i < l.length) (h : (l.getD i (0, 0)).1 = k) : flat (l.set i (k, x)) = (flat l).set (i * 2 + 1) (.int .i64 x) := by
  apply List.ext_getElem?
  intro j
  rw [List.getElem?_set]
  have hlen : (l.set i (k, x)).length = l.length := by simp
  by_cases hj : j < l.length * 2
  · obtain ⟨m, hm⟩ : ∃ m, m = j / 2 := ⟨_, rfl⟩
    have hml : m < l.length := by omega
    have f1 := flat_at (l.set i (k, x)) m (by omega)
    have f2 := flat_at l m hml
    have hg : (l.set i (k, x)).getD m (0, 0) = if i = m then (k, x) else l.getD m (0, 0) := by
      rw [getD_at _ _ _ (by omega), getD_at _ _ _ hml, List.getElem_set]
    rw [hg] at f1
    rcases Nat.mod_two_eq_zero_or_one j with hp | hp
    · have e : j = m * 2 := by omega
      clear hm
      subst e
      rw [f1.1, if_neg (show ¬ i * 2 + 1 = m * 2 by omega), f2.1]
      by_cases e : i = m
      · subst e; rw [if_pos rfl, h]
      · rw [if_neg e]
    · have e : j = m * 2 + 1 := by omega
      clear hm
      subst e
      rw [f1.2, f2.2]
      by_cases e : i = m
      · subst e; rw [if_pos rfl, if_pos rfl, if_pos (by rw [flat_len]; omega)]
      · rw [if_neg e, if_neg (by omega)]
  · rw [List.getElem?_eq_none (by rw [flat_len, hlen]; omega), List.getElem?_eq_none (l := flat l) (by rw [flat_len]; omega)]
    rw [if_neg (by omega)]
theorem WrAt.stored {w : World} {a g n c : Nat} {room asked : Int} {l : List (Int × Int)} (h : WrAt w a (.slice (some ⟨g, 0, none⟩) n c) room l asked) (i : Nat) (k x : Int) (hi : i < l.length) (hk : (l.getD i (0, 0)).1 = k) :
    WrAt (w.setCell ⟨g, i * 2 + 1, none⟩ (.int .i64 x)) a (.slice (some ⟨g, 0, none⟩) n c) room (l.set i (k, x)) asked := by
  have hn : n = l.length := by
    obtain ⟨p, c', hv⟩ := h.slice
    simp only [Value.slice.injEq] at hv
    exact hv.2.1
  subst hn
  have hga : g ≠ a := fun e => h.ne (by rw [e]; rfl)
  refine ⟨?_, ?_, h.ne, by simpa using h.small⟩
  · rw [Below.heap_setCell _ _ _ _ (fun e => hga e.symm), filterOf_set l i k x hi hk]; exact h.hd
  · have := (h.ow.stored (i * 2 + 1) (.int .i64 x)).1
    rw [flat_set l i k x hi hk, List.length_set]
    exact this
theorem wput_has (a : Nat) (v : Value) (room asked : Int) (l : List (Int × Int)) (k x : Int) (w : World) (hs : WrAt w a v room l asked) (h0 : 0 ≤ k) (h : hasKey l k = true) :
    Calls Tryz.prog 50 #[.pointer (some ⟨a, 0, none⟩), .int .i64 k, .int .i64 x] w fun e w' => e = .returned (.bool true) ∧ WrAt w' a v room (l.set (findL l k).toNat (k, x)) asked ∧ Keeps (own2 a v) w w' := by
  obtain ⟨i, hf, hi, hk⟩ := findL_at l k h
  have hsm := hs.small
  rw [hf]
  have HF := Lib.hid hf
  clear h hf
  rcases owns_words hs.ow with ⟨rfl, rfl⟩ | ⟨g, cap, rfl, hgs, hfr, _⟩
  · simp at hi
  clear hfr
  have HK := Lib.hid hk
  clear hk
  go_enter Tryz.func50, Tryz.ntmps50
  go_wp2_with (go_at_call 80; refine (wfind_any a _ room asked l k _ hs).mono ?_; rw [HF.out]; rintro e w1 ⟨rfl, hk1⟩; have hs1 := hs.keep hk1 (fun f => f) (fun _ _ f => f); obtain ⟨c0, c1, _, _⟩ := hs1.cells; rcases owns_words hs1.ow with ⟨hv1, _⟩ | ⟨g1, cap1, hv1, hgs1, hfr1, hcell1⟩; (cases hv1); simp only [Value.slice.injEq, Option.some.injEq, Addr.mk.injEq, and_true, true_and] at hv1; obtain ⟨rfl, rfl⟩ := hv1; have e1 := (hcell1 i hi).2; have e2 := hfr1 (i * 2 + 1); clear hcell1 hfr1 c0)
  go_ret
  refine ⟨rfl, ?_, ?_⟩
  · rw [Int.toNat_natCast]
    exact hs1.stored i k x hi HK.out
  · exact hk1.no.setCell (p := ⟨g, i * 2 + 1, none⟩) (fun _ => .inr rfl) _

theorem wr_put {w w3 : World} {a : Nat} {v v' : Value} {room asked : Int} {l : List (Int × Int)} {k x : Int} {o : Obj} (hs : WrAt w a v room l asked) (hsm : l.length < 4096)
    (hown : w3.ownsRow 0 97 2 v' (l.length + 1) (flat l ++ [.int .i64 k, .int .i64 x])) (hgr : (w.alloc o).grownBy w3 v.ownBlock) (hob : ∀ g, v'.ownBlock = some g → v.ownBlock = some g ∨ g = (w.alloc o).heap.size) :
    WrAt ((w3.setCell ⟨a, 1, none⟩ v').setCell ⟨a, 2, none⟩ (.int .u64 (filterOf (l ++ [(k, x)]) : Int))) a v' room (l ++ [(k, x)]) asked ∧ Keeps (own2 a v) w (w3.setCell ⟨a, 1, none⟩ v') ∧
      (∀ g, v'.ownBlock = some g → v.ownBlock = some g ∨ w.heap.size ≤ g) ∧ (w3.setCell ⟨a, 1, none⟩ v').heap[a]? = some (.cells #[.int .i64 room, v', .int .u64 (filterOf l : Int), .int .i64 asked] 110 (0, 0)) ∧
      w3.heap[a]? = some (.cells #[.int .i64 room, v, .int .u64 (filterOf l : Int), .int .i64 asked] 110 (0, 0)) := by
  have ha : w3.heap[a]? = some (.cells #[.int .i64 room, v, .int .u64 (filterOf l : Int), .int .i64 asked] 110 (0, 0)) := by
    rw [hgr.block a (by have := blk_lt hs.hd; simp; omega) (fun e => hs.ne e.symm), Below.heap_alloc _ _ _ (blk_lt hs.hd)]
    exact hs.hd
  have hne : v'.ownBlock ≠ some a := fun e => by
    rcases hob a e with h | h
    · exact hs.ne h
    · have := blk_lt hs.hd; simp at h; omega
  have hb := blk_set ha 1 v'
  refine ⟨⟨by rw [blk_set hb]; rfl, ?_, hne, by simp; omega⟩, ?_, fun g hg => ?_, hb, ha⟩
  · rw [flat_snoc, List.length_append]
    exact owns_setCell (owns_setCell hown hne _) hne _
  · exact (((Keeps.refl _ _).alloc _).grown hgr (fun k hk _ => .inr hk)).setCell (fun _ => .inl rfl) _
  · rcases hob g hg with h | h
    · exact .inl h
    · right; simp at h; omega
theorem bit_same (k : Int) (w : World) : Calls Tryz.prog 79 #[.int .i64 k] w fun e w' => e = .returned (.int .u64 (bitAt k : Int)) ∧ w' = w := (bit_any k w).mono fun _ _ ⟨h, h2⟩ => ⟨h, h2.symm⟩
set_option maxHeartbeats 400000 in
set_option maxRecDepth 100000 in
theorem wput_new (a : Nat) (v : Value) (room asked : Int) (l : List (Int × Int)) (k x : Int) (w : World) (hs : WrAt w a v room l asked) (h0 : 0 ≤ k) (h : hasKey l k = false) (h2 : (l.length : Int) < room) (hsm : l.length < 4096) :
    Calls Tryz.prog 50 #[.pointer (some ⟨a, 0, none⟩), .int .i64 k, .int .i64 x] w fun e w' => e = .returned (.bool true) ∧
      ∃ v', WrAt w' a v' room (l ++ [(k, x)]) asked ∧ Keeps (own2 a v) w w' ∧ ∀ g, v'.ownBlock = some g → v.ownBlock = some g ∨ w.heap.size ≤ g := by
  have hf := findL_eq_neg l k h
  have HF := Lib.hid hf
  have hor : bits .or .u64 (filterOf l : Int) (bitAt k : Int) = (filterOf (l ++ [(k, x)]) : Int) := by
    rw [filterOf_snoc, bits_u64_or _ _ (filterOf_lt l) (bitAt_lt k)]
  clear h hf
  obtain ⟨i0, hi, hz0, hz1, hz2⟩ := info_parts infoWord
  go_enter Tryz.func50, Tryz.ntmps50
  go_wp2_with (go_at_call 80; refine (wfind_any a v room asked l k _ hs).mono ?_; rw [HF.out]; rintro e w1 ⟨rfl, hk1⟩; have hs1 := hs.keep hk1 (fun f => f) (fun _ _ f => f); obtain ⟨c0, c1, _, _⟩ := hs1.cells; obtain ⟨p, c, rfl⟩ := hs1.slice)
  go_quiet (fail)
  have hsd := hs1.keep ((Keeps.refl NoS _).drewN nq) (fun f => f) (fun _ _ f => f)
  have d2 : ∀ u ∈ [Value.int .i64 k, .int .i64 x], u.oneCell' = true := by simp [Value.oneCell']
  have b3 : l.length + 1 ≤ maxLen := by unfold maxLen; omega
  go_wp2_with (at_builtin; go_loud (refine wpList_append_fp _ rfl _ _ 65 rfl 97 i0 (.agg #[.int .i64 0, .int .i64 0]) 2 16 Tryz.underlying65 hi hz0 hz1 hz2 rfl (by decide) (.slice p l.length c) l.length (flat l) rfl (hsd.ow.alloc _) ⟨_, 0, none⟩ 1 1 [.int .i64 k, .int .i64 x] rfl rfl (cells_new _ _ _) d2 b3 (by omega) ?_); intro v' w3 hown hgr hob; go_loud (have hput := wr_put hsd hsm hown hgr hob; have e0 := hput.2.2.2.2; have e1 : w3.cell? ⟨a, 1, none⟩ = some (.slice p l.length c) := (by rw [blk_cell e0]; rfl); have e2 := blk_free e0 1; obtain ⟨p', c', rfl⟩ := owns_slice hown; clear e0 hown hgr hob))
  have g0 := hput.2.2.2.1
  have g1 : (w3.setCell ⟨a, 1, none⟩ (.slice p' (l.length + 1) c')).cell? ⟨a, 2, none⟩ = some (.int .u64 (filterOf l : Int)) := by rw [blk_cell g0]; rfl
  have g2 := blk_free g0 2
  have HP := Lib.hid hput
  clear hput g0
  refine wp_region_still_tail 9 (by kernel_rfl) (by kernel_rfl) ?_
  obtain ⟨w4, hw4⟩ : ∃ w4, w4 = ({ heap := (w3.setCell ⟨a, 1, none⟩ (.slice p' (l.length + 1) c')).heap, tape := (w3.setCell ⟨a, 1, none⟩ (.slice p' (l.length + 1) c')).tape, drawn := (w3.setCell ⟨a, 1, none⟩ (.slice p' (l.length + 1) c')).drawn + 1, os := (w3.setCell ⟨a, 1, none⟩ (.slice p' (l.length + 1) c')).os, output := (w3.setCell ⟨a, 1, none⟩ (.slice p' (l.length + 1) c')).output } : World) := ⟨_, rfl⟩
  have g3 : w4.frozen? ⟨a, 2, none⟩ = false := by rw [hw4]; exact g2
  have g4 : w4.cell? ⟨a, 2, none⟩ = some (.int .u64 (filterOf l : Int)) := by rw [hw4]; exact g1
  rw [← hw4]
  have HW := Lib.hid hw4
  clear hw4 g1 g2
  simp only [List.take_succ_cons, List.take_zero, List.drop_succ_cons, List.drop_zero]
  repeat still_step
  still_call (bit_same k _)
  repeat still_step
  refine wpStill_nil ?_
  go_wp2
  go_ret
  rw [HW.out]
  refine ⟨rfl, _, (HP.out.1).keep ((Keeps.refl NoS _).drew) (fun f => f) (fun _ _ f => f), ?_, fun g hg => (HP.out.2.2.1 g hg).imp id (fun h => Nat.le_trans hk1.size h)⟩
  exact ((((hk1.no.trans ((Keeps.refl _ _).drewN nq)).trans HP.out.2.1).setCell (p := ⟨a, 2, none⟩) (fun _ => .inl rfl) _).drew)

/-- what Put leaves -/
def putW (room : Int) (l : List (Int × Int)) (k x : Int) : List (Int × Int) :=
  if k < 0 then l else if hasKey l k then l.set (findL l k).toNat (k, x) else if (l.length : Int) < room then l ++ [(k, x)] else l
/-- what Put tells -/
def putOk (room : Int) (l : List (Int × Int)) (k : Int) : Bool := decide (0 ≤ k) && (hasKey l k || decide ((l.length : Int) < room))
theorem wput_any (a : Nat) (v : Value) (room asked : Int) (l : List (Int × Int)) (k x : Int) (w : World) (hs : WrAt w a v room l asked) (hsm : l.length < 4096) :
    Calls Tryz.prog 50 #[.pointer (some ⟨a, 0, none⟩), .int .i64 k, .int .i64 x] w fun e w' => e = .returned (.bool (putOk room l k)) ∧
      ∃ v', WrAt w' a v' room (putW room l k x) asked ∧ Keeps (own2 a v) w w' ∧ ∀ g, v'.ownBlock = some g → v.ownBlock = some g ∨ w.heap.size ≤ g := by
  by_cases h0 : k < 0
  · rw [show putOk room l k = false by simp [putOk]; omega, show putW room l k x = l by simp [putW, h0]]
    exact (wput_neg a k x w h0).mono fun e w' ⟨he, hw⟩ => by subst hw; exact ⟨he, v, hs, Keeps.refl _ _, fun g hg => .inl hg⟩
  · cases hk : hasKey l k with
    | true =>
      rw [show putOk room l k = true by simp [putOk, hk]; omega, show putW room l k x = l.set (findL l k).toNat (k, x) by simp [putW, hk, h0]]
      exact (wput_has a v room asked l k x w hs (by omega) hk).mono fun e w' ⟨he, hw, hkp⟩ => ⟨he, v, hw, hkp, fun g hg => .inl hg⟩
    | false =>
      by_cases hr : (l.length : Int) < room
      · rw [show putOk room l k = true by simp [putOk, hr]; omega, show putW room l k x = l ++ [(k, x)] by simp [putW, hk, h0, hr]]
        exact wput_new a v room asked l k x w hs (by omega) hk hr hsm
      · rw [show putOk room l k = false by simp [putOk, hk, hr], show putW room l k x = l by simp [putW, hk, h0, hr]]
        exact (wput_full a v room asked l k x w hs (by omega) hk (by omega)).mono fun e w' ⟨he, hw⟩ => ⟨he, v, hs.keep hw (fun f => f) (fun _ _ f => f), hw.no, fun g hg => .inl hg⟩

end Go.Proofs.YtlcmnhfiggkmnaaGreat
namespace Go.Proofs.YtlcmnhfiggkmnaaGreat
open Go.RowKit
theorem wget_nil (k : Int) (w : World) : Calls Tryz.prog 41 #[.pointer none, .int .i64 k] w fun e w' => e = .returned (.tuple #[.int .i64 0, .bool false]) ∧ Keeps NoS w w' := by
  go_enter Tryz.func41, Tryz.ntmps41
  go_wp2
  go_quiet (fail)
  go_wp2
  go_ret2
  exact ⟨rfl, (Keeps.refl _ _).drewN _⟩
theorem wget_neg (a : Nat) (v : Value) (room asked : Int) (l : List (Int × Int)) (k : Int) (w : World) (_hs : WrAt w a v room l asked) (h : k < 0) : Calls Tryz.prog 41 #[.pointer (some ⟨a, 0, none⟩), .int .i64 k] w fun e w' => e = .returned (.tuple #[.int .i64 0, .bool false]) ∧ Keeps NoS w w' := by
  have hd : decide (k < 0) = true := by simpa using h
  go_enter Tryz.func41, Tryz.ntmps41
  go_wp2
  go_quiet (fail)
  go_wp2
  go_ret2
  exact ⟨rfl, (Keeps.refl _ _).drewN _⟩
theorem wget_out (a : Nat) (v : Value) (room asked : Int) (l : List (Int × Int)) (k : Int) (w : World) (hs : WrAt w a v room l asked) (h0 : 0 ≤ k) (hf : inFilter l k = false) : Calls Tryz.prog 41 #[.pointer (some ⟨a, 0, none⟩), .int .i64 k] w fun e w' => e = .returned (.tuple #[.int .i64 0, .bool false]) ∧ Keeps NoS w w' := by
  have hd : decide (k < 0) = false := by simpa using h0
  obtain ⟨_, _, c2, _⟩ := hs.cells
  have hb := find_lemmas l k
  rw [hf] at hb
  have hb0 : bits .and .u64 (filterOf l : Int) (bitAt k : Int) = 0 := hb
  clear hb hf hs
  go_enter Tryz.func41, Tryz.ntmps41
  go_wp2
  go_quiet ((go_at_call 79; exact Calls.quiet_of_same (bit_same k _)))
  go_wp2
  go_ret2
  exact ⟨rfl, (Keeps.refl _ _).drewN _⟩
/-- what stands at a place; 0 -/
def getL (l : List (Int × Int)) (k : Int) : Int := if hasKey l k then (l.getD (findL l k).toNat (0, 0)).2 else 0
theorem WrAt.asking {w : World} {a : Nat} {v : Value} {room asked : Int} {l : List (Int × Int)} (h : WrAt w a v room l asked) (z : Int) : WrAt (w.setCell ⟨a, 3, none⟩ (.int .i64 z)) a v room l z :=
  ⟨by rw [blk_set h.hd]; rfl, owns_setCell h.ow h.ne _, h.ne, h.small⟩
theorem wget_in_no (a : Nat) (v : Value) (room asked : Int) (l : List (Int × Int)) (k : Int) (w : World) (hs : WrAt w a v room l asked) (h0 : 0 ≤ k) (hf : inFilter l k = true) (hk : hasKey l k = false) :
    Calls Tryz.prog 41 #[.pointer (some ⟨a, 0, none⟩), .int .i64 k] w fun e w' => e = .returned (.tuple #[.int .i64 0, .bool false]) ∧ WrAt w' a v room l (wrap64 (asked + 1)) ∧ Keeps (fun i => a = i) w w' := by
  have hd : decide (k < 0) = false := by simpa using h0
  obtain ⟨_, _, c2, c3⟩ := hs.cells
  have f3 := blk_free hs.hd 3
  have hb := find_lemmas l k
  rw [hf] at hb
  have hb1 : (bits .and .u64 (filterOf l : Int) (bitAt k : Int) == 0) = false := by
    rw [hb]; simpa using bitAt_pos k
  clear hb hf
  have hsm := hs.small
  have HF := Lib.hid (findL_eq_neg l k hk)
  clear hk
  go_enter Tryz.func41, Tryz.ntmps41
  go_wp2
  go_quiet ((go_at_call 79; exact Calls.quiet_of_same (bit_same k _)))
  go_wp2_with fail
  have hs2 := (hs.keep ((Keeps.refl NoS _).drewN nq) (fun f => f) (fun _ _ f => f)).asking (wrap64 (asked + 1))
  have k2 : Keeps (fun i => a = i) w ((w.drewN nq).setCell ⟨a, 3, none⟩ (.int .i64 (wrap64 (asked + 1)))) := ((Keeps.refl (fun i => a = i) w).drewN nq).setCell (p := ⟨a, 3, none⟩) (fun _ => rfl) _
  have HS := Lib.hid hs2; have HK := Lib.hid k2
  clear hs2 k2 hs hb1 f3 c2 c3
  refine (wfind_any a v room _ l k _ HS.out).mono ?_
  rw [HF.out]
  rintro e w2 ⟨rfl, hk2⟩
  go_wp2
  go_ret2
  exact ⟨rfl, HS.out.keep hk2 (fun f => f) (fun _ _ f => f), HK.out.trans hk2.no⟩
theorem wget_in_yes (a : Nat) (v : Value) (room asked : Int) (l : List (Int × Int)) (k : Int) (w : World) (hs : WrAt w a v room l asked) (h0 : 0 ≤ k) (hf : inFilter l k = true) (hk : hasKey l k = true) :
    Calls Tryz.prog 41 #[.pointer (some ⟨a, 0, none⟩), .int .i64 k] w fun e w' => e = .returned (.tuple #[.int .i64 (l.getD (findL l k).toNat (0, 0)).2, .bool true]) ∧ WrAt w' a v room l (wrap64 (asked + 1)) ∧ Keeps (fun i => a = i) w w' := by
  have hd : decide (k < 0) = false := by simpa using h0
  obtain ⟨_, _, c2, c3⟩ := hs.cells
  have f3 := blk_free hs.hd 3
  have hb := find_lemmas l k
  rw [hf] at hb
  have hb1 : (bits .and .u64 (filterOf l : Int) (bitAt k : Int) == 0) = false := by
    rw [hb]; simpa using bitAt_pos k
  clear hb hf
  have hsm := hs.small
  obtain ⟨i, hi, hl, _⟩ := findL_at l k hk
  rw [show (l.getD (findL l k).toNat (0, 0)).2 = (l.getD i (0, 0)).2 by rw [hi]; rfl]
  obtain ⟨y, hy⟩ : ∃ y, (l.getD i (0, 0)).2 = y := ⟨_, rfl⟩
  rw [hy]
  have HF := Lib.hid hi; have HY := Lib.hid hy
  clear hk hi hy
  go_enter Tryz.func41, Tryz.ntmps41
  go_wp2
  go_quiet ((go_at_call 79; exact Calls.quiet_of_same (bit_same k _)))
  go_wp2_with fail
  have hs2 := (hs.keep ((Keeps.refl NoS _).drewN nq) (fun f => f) (fun _ _ f => f)).asking (wrap64 (asked + 1))
  have k2 : Keeps (fun i => a = i) w ((w.drewN nq).setCell ⟨a, 3, none⟩ (.int .i64 (wrap64 (asked + 1)))) := ((Keeps.refl (fun i => a = i) w).drewN nq).setCell (p := ⟨a, 3, none⟩) (fun _ => rfl) _
  have HS := Lib.hid hs2; have HK := Lib.hid k2
  clear hs2 k2 hs hb1 f3 c2 c3
  refine (wfind_any a v room _ l k _ HS.out).mono ?_
  rw [HF.out]
  rintro e w2 ⟨rfl, hk2⟩
  have hs3 := HS.out.keep hk2 (fun f => f) (fun _ _ f => f)
  have H3 := Lib.hid hs3
  obtain ⟨_, d1, _, _⟩ := hs3.cells
  rcases owns_words hs3.ow with ⟨rfl, rfl⟩ | ⟨g, cap, rfl, hgs, _, hcell⟩
  · simp at hl
  have e1 := (hcell i hl).2
  rw [HY.out] at e1
  clear hcell hs3
  go_wp2
  go_ret2
  exact ⟨rfl, H3.out, HK.out.trans hk2.no⟩
theorem wget_in (a : Nat) (v : Value) (room asked : Int) (l : List (Int × Int)) (k : Int) (w : World) (hs : WrAt w a v room l asked) (h0 : 0 ≤ k) (hf : inFilter l k = true) :
    Calls Tryz.prog 41 #[.pointer (some ⟨a, 0, none⟩), .int .i64 k] w fun e w' => e = .returned (.tuple #[.int .i64 (getL l k), .bool (hasKey l k)]) ∧ WrAt w' a v room l (wrap64 (asked + 1)) ∧ Keeps (fun i => a = i) w w' := by
  cases hk : hasKey l k with
  | false => rw [show getL l k = 0 by simp [getL, hk]]; exact wget_in_no a v room asked l k w hs h0 hf hk
  | true => rw [show getL l k = (l.getD (findL l k).toNat (0, 0)).2 by simp [getL, hk]]; exact wget_in_yes a v room asked l k w hs h0 hf hk
/-- how often it was asked, behind a Get -/
def askedL (l : List (Int × Int)) (k asked : Int) : Int := if decide (0 ≤ k) && inFilter l k then wrap64 (asked + 1) else asked
def hasW (l : List (Int × Int)) (k : Int) : Bool := decide (0 ≤ k) && hasKey l k
def getW (l : List (Int × Int)) (k : Int) : Int := if 0 ≤ k then getL l k else 0
theorem wget_any (a : Nat) (v : Value) (room asked : Int) (l : List (Int × Int)) (k : Int) (w : World) (hs : WrAt w a v room l asked) :
    Calls Tryz.prog 41 #[.pointer (some ⟨a, 0, none⟩), .int .i64 k] w fun e w' => e = .returned (.tuple #[.int .i64 (getW l k), .bool (hasW l k)]) ∧ WrAt w' a v room l (askedL l k asked) ∧ Keeps (fun i => a = i) w w' := by
  by_cases h0 : 0 ≤ k
  · cases hf : inFilter l k with
    | true =>
      rw [show getW l k = getL l k by simp [getW, h0], show hasW l k = hasKey l k by simp [hasW, h0], show askedL l k asked = wrap64 (asked + 1) by simp [askedL, hf, h0]]
      exact wget_in a v room asked l k w hs h0 hf
    | false =>
      have hk : hasKey l k = false := by
        cases hk : hasKey l k with
        | false => rfl
        | true => rw [inFilter_has l k hk] at hf; cases hf
      rw [show getW l k = 0 by simp [getW, getL, hk], show hasW l k = false by simp [hasW, hk], show askedL l k asked = asked by simp [askedL, hf]]
      exact (wget_out a v room asked l k w hs h0 hf).mono fun e w' ⟨he, hw⟩ => ⟨he, hs.keep hw (fun f => f) (fun _ _ f => f), hw.no⟩
  · rw [show getW l k = 0 by simp [getW, h0], show hasW l k = false by simp [hasW, h0], show askedL l k asked = asked by simp [askedL, h0]]
    exact (wget_neg a v room asked l k w hs (by omega)).mono fun e w' ⟨he, hw⟩ => ⟨he, hs.keep hw (fun f => f) (fun _ _ f => f), hw.no⟩

theorem wnew_any (n : Int) (w : World) : Calls Tryz.prog 76 #[.int .i64 n] w fun e w' => e = .returned (.pointer (some ⟨w.heap.size, 0, none⟩)) ∧ WrAt w' w.heap.size (.slice none 0 0) (min (max n 0) 32) [] 0 ∧ Keeps NoS w w' ∧ w.heap.size < w'.heap.size := by
  have hp : ∀ m : Int, WrAt (w.alloc (.cells #[.int .i64 m, .slice none 0 0, .int .u64 0, .int .i64 0] 110)) w.heap.size (.slice none 0 0) m [] 0 := fun m => ⟨heap_alloc_new _ _, World.ownsRow_nil _ _ _ _, by simp [Value.ownBlock], by simp⟩
  by_cases h0 : 0 ≤ n <;> by_cases h1 : n ≤ 32
  all_goals first
    | (exfalso; omega)
    | skip
  · have e : min (max n 0) 32 = n := by omega
    rw [e]; clear e
    have hp := Lib.hid (hp n)
    go_enter Tryz.func76, Tryz.ntmps76
    go_wp2
    all_goals first
      | (exfalso; omega)
      | (go_ret; exact ⟨rfl, hp.out, (Keeps.refl _ _).alloc _, by simp⟩)
  · have e : min (max n 0) 32 = 32 := by omega
    rw [e]; clear e
    have hp := Lib.hid (hp 32)
    go_enter Tryz.func76, Tryz.ntmps76
    go_wp2
    all_goals first
      | (exfalso; omega)
      | (go_ret; exact ⟨rfl, hp.out, (Keeps.refl _ _).alloc _, by simp⟩)
  · have e : min (max n 0) 32 = 0 := by omega
    rw [e]; clear e
    have hp := Lib.hid (hp 0)
    go_enter Tryz.func76, Tryz.ntmps76
    go_wp2
    all_goals first
      | (exfalso; omega)
      | (go_ret; exact ⟨rfl, hp.out, (Keeps.refl _ _).alloc _, by simp⟩)
theorem wlen_any (a : Nat) (v : Value) (room asked : Int) (l : List (Int × Int)) (w : World) (hs : WrAt w a v room l asked) : Calls Tryz.prog 94 #[.pointer (some ⟨a, 0, none⟩)] w fun e w' => e = .returned (.int .i64 l.length) ∧ w = w' := by
  obtain ⟨_, c1, _, _⟩ := hs.cells
  obtain ⟨p, c, rfl⟩ := hs.slice
  go_enter Tryz.func94, Tryz.ntmps94
  go_wp2
  go_ret
  exact ⟨rfl, rfl⟩
theorem wlen_nil (w : World) : Calls Tryz.prog 94 #[.pointer none] w fun e w' => e = .returned (.int .i64 0) ∧ w = w' := by
  go_enter Tryz.func94, Tryz.ntmps94
  go_wp2
  go_ret
  exact ⟨rfl, rfl⟩
end Go.Proofs.YtlcmnhfiggkmnaaGreat
namespace Go.Proofs.YtlcmnhfiggkmnaaGreat
open Go.RowKit

/-- what stands at a place -/
def look : List (Int × Int) → Int → Option Int
  | [], _ => none
  | x :: l, k => if x.1 = k then some x.2 else look l k
def upd : List (Int × Int) → Int → Int → List (Int × Int)
  | [], _, _ => []
  | y :: l, k, x => if y.1 = k then (k, x) :: l else y :: upd l k x
theorem look_has (l : List (Int × Int)) (k : Int) : hasKey l k = (look l k).isSome := by
  induction l with
  | nil => rfl
  | cons x l ih =>
    simp only [hasKey, List.any_cons, look] at ih ⊢
    by_cases h : x.1 = k
    · simp [h]
    · rw [ih]; simp [h]
theorem findL_cons (x : Int × Int) (l : List (Int × Int)) (k : Int) (h : x.1 ≠ k) (hk : hasKey l k = true) : (findL (x :: l) k).toNat = (findL l k).toNat + 1 := by
  obtain ⟨i, hi, _, _⟩ := findL_at l k hk
  unfold findL at hi ⊢
  rw [List.findIdx?_cons]
  simp only [beq_eq_false_iff_ne.2 h, Bool.false_eq_true, if_false]
  cases hf : l.findIdx? (fun x => x.1 == k) with
  | none => rw [hf] at hi; simp at hi
  | some j => simp
theorem findL_head (x : Int × Int) (l : List (Int × Int)) (k : Int) (h : x.1 = k) : (findL (x :: l) k).toNat = 0 := by
  unfold findL
  rw [List.findIdx?_cons]
  simp [h]
theorem getL_look (l : List (Int × Int)) (k : Int) : getL l k = (look l k).getD 0 := by
  induction l with
  | nil => rfl
  | cons x l ih =>
    by_cases h : x.1 = k
    · simp [getL, look, h, findL_head x l k h, hasKey]
    · cases hk : hasKey l k with
      | true =>
        have h2 : hasKey (x :: l) k = true := by simp only [hasKey, List.any_cons] at hk ⊢; rw [hk]; simp
        rw [getL, if_pos h2, findL_cons x l k h hk, List.getD_cons_succ]
        rw [getL, if_pos hk] at ih
        rw [ih]; simp [look, h]
      | false =>
        have h2 : hasKey (x :: l) k = false := by simp only [hasKey, List.any_cons] at hk ⊢; rw [hk]; simpa using h
        rw [getL, h2]
        rw [getL, hk] at ih
        rw [look, if_neg h, ← ih]; rfl
theorem set_upd (l : List (Int × Int)) (k x : Int) (hk : hasKey l k = true) : l.set (findL l k).toNat (k, x) = upd l k x := by
  induction l with
  | nil => simp [hasKey] at hk
  | cons y l ih =>
    by_cases h : y.1 = k
    · rw [findL_head y l k h]; simp [upd, h]
    · have hk2 : hasKey l k = true := by
        simp only [hasKey, List.any_cons, Bool.or_eq_true] at hk ⊢
        rcases hk with hk | hk
        · exact absurd (by simpa using hk) h
        · exact hk
      rw [findL_cons y l k h hk2, List.set_cons_succ, ih hk2]; simp [upd, h]
theorem upd_len (l : List (Int × Int)) (k x : Int) : (upd l k x).length = l.length := by
  induction l with
  | nil => rfl
  | cons y l ih => simp only [upd]; split <;> simp_all
theorem look_upd (l : List (Int × Int)) (k x a : Int) (hk : hasKey l k = true) : look (upd l k x) a = if k = a then some x else look l a := by
  induction l with
  | nil => simp [hasKey] at hk
  | cons y l ih =>
    by_cases h : y.1 = k
    · simp only [upd, h, if_true, look]
      by_cases h1 : k = a <;> simp [h1]
    · have hk2 : hasKey l k = true := by
        simp only [hasKey, List.any_cons, Bool.or_eq_true] at hk ⊢
        rcases hk with hk | hk
        · exact absurd (by simpa using hk) h
        · exact hk
      simp only [upd, if_neg h, look]
      rw [ih hk2]
      by_cases h1 : y.1 = a
      · rw [if_pos h1, if_pos h1]
        have : k ≠ a := fun e => h (h1.trans e.symm)
        simp [this]
      · simp [h1]
theorem look_snoc (l : List (Int × Int)) (k x a : Int) (hk : hasKey l k = false) : look (l ++ [(k, x)]) a = if k = a then some x else look l a := by
  induction l with
  | nil => simp [look]
  | cons y l ih =>
    have hk2 : hasKey l k = false ∧ y.1 ≠ k := by
      simp only [hasKey, List.any_cons, Bool.or_eq_false_iff] at hk ⊢
      exact ⟨hk.2, by simpa using hk.1⟩
    simp only [List.cons_append, look]
    rw [ih hk2.1]
    by_cases h1 : y.1 = a
    · have : k ≠ a := fun e => hk2.2 (h1.trans e.symm)
      simp [h1, this]
    · simp [h1]
theorem look_put (room : Int) (l : List (Int × Int)) (k x a : Int) (h : putOk room l k = true) : look (putW room l k x) a = if k = a then some x else look l a := by
  simp only [putOk, Bool.and_eq_true, decide_eq_true_eq, Bool.or_eq_true] at h
  unfold putW
  rw [if_neg (by omega)]
  cases hk : hasKey l k with
  | true => rw [if_pos rfl, set_upd l k x hk, look_upd l k x a hk]
  | false =>
    rw [hk] at h
    have hr : (l.length : Int) < room := by rcases h.2 with h | h <;> simp_all
    rw [if_neg (by simp), if_pos hr, look_snoc l k x a hk]
theorem putW_len (room : Int) (l : List (Int × Int)) (k x : Int) : (putW room l k x).length ≤ l.length + 1 := by
  unfold putW
  split
  · omega
  · split
    · simp
    · split <;> simp
theorem getL_put (room : Int) (l : List (Int × Int)) (k x a : Int) (h : putOk room l k = true) : getL (putW room l k x) a = if k = a then x else getL l a := by
  rw [getL_look, getL_look, look_put room l k x a h]; split <;> rfl
theorem hasKey_put (room : Int) (l : List (Int × Int)) (k x a : Int) (h : putOk room l k = true) : hasKey (putW room l k x) a = (decide (k = a) || hasKey l a) := by
  rw [look_has, look_has, look_put room l k x a h]; split <;> simp_all
end Go.Proofs.YtlcmnhfiggkmnaaGreat
namespace Go.Proofs.YtlcmnhfiggkmnaaGreat
open Go.RowKit
/-- A set at block a, all its own, in a world that has kept what w held. -/
def WrIn (w wr : World) (a : Nat) (room asked : Int) (l : List (Int × Int)) : Prop :=
  ∃ v, WrAt wr a v room l asked ∧ w.heap.size ≤ a ∧ (∀ g, v.ownBlock = some g → w.heap.size ≤ g) ∧ Keeps NoS w wr
theorem WrIn.keep {w wr w' : World} {a : Nat} {room asked : Int} {l : List (Int × Int)} (h : WrIn w wr a room asked l) (k : Keeps NoS wr w') : WrIn w w' a room asked l := by
  obtain ⟨v, h1, h2, h3, h4⟩ := h
  exact ⟨v, h1.keep k (fun f => f) (fun _ _ f => f), h2, h3, h4.trans k⟩
theorem WrIn.kept {w wr : World} {a : Nat} {room asked : Int} {l : List (Int × Int)} (h : WrIn w wr a room asked l) : Keeps NoS w wr := by
  obtain ⟨v, h1, h2, h3, h4⟩ := h
  exact h4
theorem WrIn.drew {w wr : World} {a : Nat} {room asked : Int} {l : List (Int × Int)} (h : WrIn w wr a room asked l) : WrIn w wr.drew a room asked l := h.keep ((Keeps.refl _ _).drew)
theorem wput_in {w wr : World} {a : Nat} {room asked : Int} {l : List (Int × Int)} (h : WrIn w wr a room asked l) (hsm : l.length < 4096) (k x : Int) :
    Calls Tryz.prog 50 #[.pointer (some ⟨a, 0, none⟩), .int .i64 k, .int .i64 x] wr fun e w' => e = .returned (.bool (putOk room l k)) ∧ WrIn w w' a room asked (putW room l k x) := by
  obtain ⟨v, h1, h2, h3, h4⟩ := h
  refine (wput_any a v room asked l k x wr h1 hsm).mono ?_
  rintro e w' ⟨he, v', hv, hk, hn⟩
  refine ⟨he, v', hv, h2, fun g hg => (hn g hg).elim (h3 g) (fun h => Nat.le_trans h4.size h), h4.trans' hk (fun i hi ht => ?_)⟩
  rcases ht with rfl | ht
  · omega
  · have := h3 i ht; omega
theorem wget_into {w wr : World} {a : Nat} {room asked : Int} {l : List (Int × Int)} (h : WrIn w wr a room asked l) (k : Int) :
    Calls Tryz.prog 41 #[.pointer (some ⟨a, 0, none⟩), .int .i64 k] wr fun e w' => e = .returned (.tuple #[.int .i64 (getW l k), .bool (hasW l k)]) ∧ WrIn w w' a room (askedL l k asked) l := by
  obtain ⟨v, h1, h2, h3, h4⟩ := h
  refine (wget_any a v room asked l k wr h1).mono ?_
  rintro e w' ⟨he, hv, hk⟩
  refine ⟨he, v, hv, h2, h3, h4.trans' hk (fun i hi ht => ?_)⟩
  subst ht; omega
theorem wnew_in (n : Int) (w wr : World) (h : Keeps NoS w wr) : Calls Tryz.prog 76 #[.int .i64 n] wr fun e w' => e = .returned (.pointer (some ⟨wr.heap.size, 0, none⟩)) ∧ WrIn w w' wr.heap.size (min (max n 0) 32) 0 [] :=
  (wnew_any n wr).mono fun _ _ ⟨he, hs, hk, _⟩ => ⟨he, _, hs, h.size, by simp [Value.ownBlock], h.trans hk⟩
end Go.Proofs.YtlcmnhfiggkmnaaGreat
