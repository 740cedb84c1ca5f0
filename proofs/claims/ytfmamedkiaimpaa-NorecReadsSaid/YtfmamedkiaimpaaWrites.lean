/- The functions of package writes, each with what it computes and what it does to memory. -/
import Derived.Test.YtfmamedkiaimpaaReadsPut
import Derived.Test.YtfmamedkiaimpaaFindL
import Derived.Test.YtfmamedkiaimpaaBits
namespace Go.Proofs.Ytfmamedkiaimpaa
open Go.RowKit

/-- a place's bit, as a number -/
def bitAt (k : Int) : Nat := 2 ^ (k % 64).toNat
theorem bitAt_lt (k : Int) : bitAt k < 18446744073709551616 := by
  have h1 := Int.emod_lt_of_pos k (show (0 : Int) < 64 by decide)
  have : bitAt k ≤ 2 ^ 63 := Nat.pow_le_pow_right (by decide) (by omega)
  have e : (2 : Nat) ^ 63 = 9223372036854775808 := by decide
  omega
def filterOf (l : List (Int × Int)) : Nat := l.foldl (fun f x => f ||| bitAt x.1) 0
theorem filterOf_snoc (l : List (Int × Int)) (x : Int × Int) : filterOf (l ++ [x]) = filterOf l ||| bitAt x.1 := by simp [filterOf]
theorem or_lt64 {a b : Nat} (ha : a < 18446744073709551616) (hb : b < 18446744073709551616) : a ||| b < 18446744073709551616 := Nat.or_lt_two_pow (n := 64) ha hb
theorem snoc_induct {α : Type} {p : List α → Prop} (l : List α) (h0 : p []) (hs : ∀ (l : List α) (x : α), p l → p (l ++ [x])) : p l := by
  have : ∀ m : List α, p m.reverse := by
    intro m
    induction m with
    | nil => exact h0
    | cons x m ih => rw [List.reverse_cons]; exact hs _ _ ih
  simpa using this l.reverse
theorem filterOf_lt (l : List (Int × Int)) : filterOf l < 18446744073709551616 := by
  induction l using snoc_induct with
  | h0 => decide
  | hs l x ih => rw [filterOf_snoc]; exact or_lt64 ih (bitAt_lt _)
theorem bitAt_test (k : Int) (i : Nat) : (bitAt k).testBit i = decide ((k % 64).toNat = i) := by simp [bitAt, Nat.testBit_two_pow]
theorem filterOf_test (l : List (Int × Int)) (i : Nat) : (filterOf l).testBit i = l.any fun x => decide ((x.1 % 64).toNat = i) := by
  induction l using snoc_induct with
  | h0 => simp [filterOf]
  | hs l x ih => rw [filterOf_snoc, Nat.testBit_or, ih, bitAt_test]; simp
/-- does the filter have a place's bit? -/
def inFilter (l : List (Int × Int)) (k : Int) : Bool := (filterOf l).testBit (k % 64).toNat
theorem and_bit (l : List (Int × Int)) (k : Int) : filterOf l &&& bitAt k = if inFilter l k then bitAt k else 0 := by
  apply Nat.eq_of_testBit_eq
  intro i
  rw [Nat.testBit_and, bitAt_test, inFilter]
  by_cases h : (k % 64).toNat = i
  · subst h
    cases hb : (filterOf l).testBit (k % 64).toNat <;> simp [bitAt_test]
  · simp only [h, decide_false, Bool.and_false]
    split
    · rw [bitAt_test]; simp [h]
    · simp
theorem inFilter_has (l : List (Int × Int)) (k : Int) (h : hasKey l k = true) : inFilter l k = true := by
  simp only [hasKey, List.any_eq_true] at h
  obtain ⟨x, hx, hk⟩ := h
  rw [inFilter, filterOf_test, List.any_eq_true]
  exact ⟨x, hx, by have : x.1 = k := by simpa using hk
                   rw [this]; simp⟩
theorem bits_u64_and (a b : Nat) (ha : a < 18446744073709551616) (hb : b < 18446744073709551616) : bits .and .u64 (a : Int) (b : Int) = ((a &&& b : Nat) : Int) := by
  have h : bits .and .u64 (a : Int) (b : Int) = IntKind.u64.wrap (((BitVec.ofInt 64 (a : Int)).toNat &&& (BitVec.ofInt 64 (b : Int)).toNat : Nat) : Int) :=
    congrArg (fun n : Nat => IntKind.u64.wrap (n : Int)) (BitVec.toNat_and _ _)
  have e1 : (BitVec.ofInt 64 (a : Int)).toNat = a := by have := toNat_ofInt64 (a : Int); omega
  have e2 : (BitVec.ofInt 64 (b : Int)).toNat = b := by have := toNat_ofInt64 (b : Int); omega
  rw [h, e1, e2, IntKind.wrap_u64]
  have := Nat.and_lt_two_pow (n := 64) a hb
  have e : (2 : Nat) ^ 64 = 18446744073709551616 := by decide
  omega
theorem bits_u64_or (a b : Nat) (ha : a < 18446744073709551616) (hb : b < 18446744073709551616) : bits .or .u64 (a : Int) (b : Int) = ((a ||| b : Nat) : Int) := by
  have h : bits .or .u64 (a : Int) (b : Int) = IntKind.u64.wrap (((BitVec.ofInt 64 (a : Int)).toNat ||| (BitVec.ofInt 64 (b : Int)).toNat : Nat) : Int) :=
    congrArg (fun n : Nat => IntKind.u64.wrap (n : Int)) (BitVec.toNat_or _ _)
  have e1 : (BitVec.ofInt 64 (a : Int)).toNat = a := by have := toNat_ofInt64 (a : Int); omega
  have e2 : (BitVec.ofInt 64 (b : Int)).toNat = b := by have := toNat_ofInt64 (b : Int); omega
  rw [h, e1, e2, IntKind.wrap_u64]
  have := or_lt64 ha hb
  omega

theorem bit_any (k : Int) (w : World) : Calls Try.prog 78 #[.int .i64 k] w fun e w' => e = .returned (.int .u64 (bitAt k : Int)) ∧ w = w' := by
  have e := and_63 k
  have h0 := Int.emod_nonneg k (show (64 : Int) ≠ 0 by decide)
  have h1 := Int.emod_lt_of_pos k (show (0 : Int) < 64 by decide)
  have HE : IntKind.u64.wrap ((2 : Int) ^ (k % 64).toNat) = (bitAt k : Int) := by
    have hc : (2 : Int) ^ (k % 64).toNat = ((bitAt k : Nat) : Int) := by simp [bitAt]
    have := bitAt_lt k
    rw [hc, IntKind.wrap_u64]; omega
  go_enter Try.func78, Try.ntmps78
  go_wp2
  go_ret
  exact ⟨rfl, rfl⟩

/-- a slice of words that something owns, as the walks read it -/
theorem owns_words {w : World} {v : Value} {l : List (Int × Int)} (h : w.ownsRow 0 54 2 v l.length (flat l)) :
    (v = .slice none 0 0 ∧ l = []) ∨ ∃ g cap, v = .slice (some ⟨g, 0, none⟩) l.length cap ∧ g < w.heap.size ∧ (∀ j, w.frozen? ⟨g, j, none⟩ = false) ∧
      (∀ k, k < l.length → w.cell? ⟨g, k * 2, none⟩ = some (.int .i64 (l.getD k (0, 0)).1) ∧ w.cell? ⟨g, k * 2 + 1, none⟩ = some (.int .i64 (l.getD k (0, 0)).2)) := by
  rcases h.2 with ⟨hv, hn⟩ | ⟨g, cap, cur, hv, hb, hg, hn, hm, hs, ht⟩
  · exact .inl ⟨hv, List.eq_nil_of_length_eq_zero hn⟩
  · refine .inr ⟨g, cap, hv, blk_lt hg, blk_free hg, fun k hk => ?_⟩
    have hf := flat_at l k hk
    rw [blk_cell hg, blk_cell hg]
    rw [← ht] at hf
    constructor
    · have := hf.1; rw [List.getElem?_take, if_pos (by omega)] at this; simpa using this
    · have := hf.2; rw [List.getElem?_take, if_pos (by omega)] at this; simpa using this

/-- a writes.Set at block a: its room, its words in order, how often it was asked; the words' slice is v -/
structure WrAt (w : World) (a : Nat) (v : Value) (room : Int) (l : List (Int × Int)) (asked : Int) : Prop where
  hd : w.heap[a]? = some (.cells #[.int .i64 room, v, .int .u64 (filterOf l : Int), .int .i64 asked] 105 (0, 0))
  ow : w.ownsRow 0 54 2 v l.length (flat l)
  ne : v.ownBlock ≠ some a
  small : l.length ≤ 4096
theorem WrAt.keep {w w' : World} {a : Nat} {v : Value} {room asked : Int} {l : List (Int × Int)} {S : Nat → Prop} (h : WrAt w a v room l asked) (k : Keeps S w w') (ha : ¬ S a) (hv : ∀ g, v.ownBlock = some g → ¬ S g) : WrAt w' a v room l asked :=
  ⟨k.blk h.hd ha, k.owns h.ow hv, h.ne, h.small⟩
theorem WrAt.cells {w : World} {a : Nat} {v : Value} {room asked : Int} {l : List (Int × Int)} (h : WrAt w a v room l asked) :
    w.cell? ⟨a, 0, none⟩ = some (.int .i64 room) ∧ w.cell? ⟨a, 1, none⟩ = some v ∧ w.cell? ⟨a, 2, none⟩ = some (.int .u64 (filterOf l : Int)) ∧ w.cell? ⟨a, 3, none⟩ = some (.int .i64 asked) :=
  ⟨by rw [blk_cell h.hd]; rfl, by rw [blk_cell h.hd]; rfl, by rw [blk_cell h.hd]; rfl, by rw [blk_cell h.hd]; rfl⟩
theorem WrAt.slice {w : World} {a : Nat} {v : Value} {room asked : Int} {l : List (Int × Int)} (h : WrAt w a v room l asked) : ∃ p c, v = .slice p l.length c := owns_slice h.ow

theorem find_lemmas (l : List (Int × Int)) (k : Int) : bits .and .u64 (filterOf l : Int) (bitAt k : Int) = if inFilter l k then (bitAt k : Int) else 0 := by
  rw [bits_u64_and _ _ (filterOf_lt l) (bitAt_lt k), and_bit]
  split <;> simp
theorem bitAt_pos (k : Int) : (bitAt k : Int) ≠ 0 := by
  have : 0 < bitAt k := Nat.two_pow_pos _
  omega
set_option maxHeartbeats 400000 in
theorem wfind_any (a : Nat) (v : Value) (room asked : Int) (l : List (Int × Int)) (key : Int) (w : World) (hs : WrAt w a v room l asked) :
    Calls Try.prog 79 #[.pointer (some ⟨a, 0, none⟩), .int .i64 key] w fun e w' => e = .returned (.int .i64 (findL l key)) ∧ Keeps NoS w w' := by
  obtain ⟨c0, c1, c2, c3⟩ := hs.cells
  have hsm := hs.small
  have hb0 := find_lemmas l key
  cases hf : inFilter l key with
  | false =>
    have hn : findL l key = -1 := findL_none l key (fun x hx e => by
      have : inFilter l key = true := inFilter_has l key (by simp only [hasKey, List.any_eq_true]; exact ⟨x, hx, by simpa using e⟩)
      rw [hf] at this; cases this)
    rw [hf] at hb0
    rw [hn]
    have hb0 : bits .and .u64 (filterOf l : Int) (bitAt key : Int) = 0 := hb0
    clear hn hf hs
    generalize (filterOf l : Int) = F at *
    go_enter Try.func79, Try.ntmps79
    go_wp2
    go_region_held3 (fun w' => w'.cell? ⟨a, 2, none⟩ = some (.int .u64 F)) (exact c2) (first | (go_at_call 78; refine (bit_any key _).mono ?_; rintro e w' ⟨rfl, rfl⟩))
    go_wp2
    go_ret
    exact ⟨rfl, (Keeps.refl _ _).drew⟩
  | true =>
    rw [hf] at hb0
    have hb1 : (bits .and .u64 (filterOf l : Int) (bitAt key : Int) == 0) = false := by
      rw [hb0]; simpa using bitAt_pos key
    clear hb0 hf
    rcases owns_words hs.ow with ⟨rfl, rfl⟩ | ⟨g, cap, rfl, hgs, _, hcell⟩
    · clear hs
      have hb1 : (bits .and .u64 ((filterOf [] : Nat) : Int) (bitAt key : Int) == 0) = false := hb1
      generalize ((filterOf [] : Nat) : Int) = F at *
      go_enter Try.func79, Try.ntmps79
      go_wp2
      go_region_held3 (fun w' => w'.cell? ⟨a, 2, none⟩ = some (.int .u64 F)) (exact c2) (first | (go_at_call 78; refine (bit_any key _).mono ?_; rintro e w' ⟨rfl, rfl⟩))
      have d1 : w.drew.cell? ⟨a, 1, none⟩ = some (.slice none 0 0) := c1
      go_wp2
      go_loop [19] (fun i => i = .int .i64 0) (fun _ => 0)
      case atStart => rfl
      case round =>
        subst hrel
        go_wp2
        go_ret
        exact ⟨rfl, (Keeps.refl _ _).drew⟩
    · have Hc := Lib.hid hcell
      clear hcell hs
      generalize (filterOf l : Int) = F at *
      go_enter Try.func79, Try.ntmps79
      go_wp2
      go_region_held3 (fun w' => w'.cell? ⟨a, 2, none⟩ = some (.int .u64 F)) (exact c2) (first | (go_at_call 78; refine (bit_any key _).mono ?_; rintro e w' ⟨rfl, rfl⟩))
      have d1 : w.drew.cell? ⟨a, 1, none⟩ = some (.slice (some ⟨g, 0, none⟩) l.length cap) := c1
      go_wp2
      go_loopw [19] (fun i wr => ∃ k : Nat, k ≤ l.length ∧ i = .int .i64 k ∧ (∀ x ∈ l.take k, x.1 ≠ key) ∧ wr = w.drew) (fun i _ => l.length - (intOf i).toNat)
      case atStart => exact ⟨0, by omega, rfl, by simp, rfl⟩
      case round =>
        obtain ⟨k, hk, rfl, hno, rfl⟩ := hrel
        by_cases hlt : k < l.length
        · have e0 : w.drew.cell? ⟨g, k * 2, none⟩ = some (.int .i64 (l.getD k (0, 0)).1) := (Hc.out k hlt).1
          have hno' := any_take_succ l key k hlt hno
          have hfs : (l.getD k (0, 0)).1 = key → findL l key = (k : Int) := fun h => findL_some l key k hlt h hno
          have Hno' := Lib.hid hno'; have Hfs := Lib.hid hfs; have Hno := Lib.hid hno
          clear hno' hfs hno
          generalize (l.getD k (0, 0)).1 = x at *
          go_wp2
          · have hb : (x == key) = true := by assumption
            go_ret
            exact ⟨retI (Hfs.out (by simpa using hb)).symm, (Keeps.refl _ _).drew⟩
          · have hb : (x == key) = false := by assumption
            go_roundw
            case rel => exact ⟨k + 1, by omega, by go_num, Hno'.out (by simpa using hb), trivial⟩
            case measure => simp [intOf]; omega
        · have hf : findL l key = -1 := findL_none l key (fun x hx => hno x (by rw [List.take_of_length_le (by omega)]; exact hx))
          have Hf := Lib.hid hf
          clear hf hno
          go_wp2
          go_ret
          exact ⟨retI Hf.out.symm, (Keeps.refl _ _).drew⟩
end Go.Proofs.Ytfmamedkiaimpaa
