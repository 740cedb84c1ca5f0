/- Take and Drop of any hand at layer 8's map: the program's, the document's. -/
import Derived.Test.YtjchcmomppfilaaMcsTake
import Derived.Test.YtjchcmomppfilaaMcsDrop
import Derived.Test.YtjchcmomppfilaaMcsRefDrop
import Derived.Test.YtjchcmomppfilaaMcsLast
namespace Go.Proofs.Ytjchcmomppfilaa
open Go.RowKit
def mTakeI (M : MemS) (h : HandS) : MemS × HandS := if okH h.t h.l then mTake M h.t.toNat h.l.toNat h.s h.r h.x else (M, h)
def mDropI (M : MemS) (h : HandS) : MemS × HandS := if okH h.t h.l then mDrop M h.t.toNat h.l.toNat h.s h.r h.x else (M, h)
theorem mTakeI_len (M : MemS) (h : HandS) : (mTakeI M h).1.L.length = M.L.length := by
  unfold mTakeI
  split
  · exact mTake_len
  · rfl
theorem mDropI_len (M : MemS) (h : HandS) : (mDropI M h).1.L.length = M.L.length := by
  unfold mDropI
  split
  · exact mDrop_len
  · rfl
theorem mTakeI_nat {M : MemS} {t l : Nat} (ht : t < 4) (hl : l < 2) (s : Int) (r : Bool) (x : Int) : mTakeI M ⟨t, l, s, r, x⟩ = mTake M t l s r x := by
  unfold mTakeI; dsimp only; rw [if_pos (okH_nat ht hl), Int.toNat_natCast, Int.toNat_natCast]
theorem mDropI_nat {M : MemS} {t l : Nat} (ht : t < 4) (hl : l < 2) (s : Int) (r : Bool) (x : Int) : mDropI M ⟨t, l, s, r, x⟩ = mDrop M t l s r x := by
  unfold mDropI; dsimp only; rw [if_pos (okH_nat ht hl), Int.toNat_natCast, Int.toNat_natCast]
theorem take8_any (t l s : Int) (r : Bool) (x : Int) (a : Nat) (v : Value) (M : MemS) (w : World) (hA : MemAt w a v M) (hl48 : M.L.length = 48) : Calls Try.prog 18 #[.agg #[.int .i64 2, .int .i64 2, .int .i64 4, .int .i64 0, .int .i64 2], .pointer (some ⟨a, 0, none⟩), .agg #[.int .i64 t, .int .i64 l, .int .i64 s, .bool r, .int .i64 x]] w fun e w' => e = .returned (handV (mTakeI M ⟨t, l, s, r, x⟩).2) ∧ MemAt w' a v (mTakeI M ⟨t, l, s, r, x⟩).1 ∧ Keeps (own2m a v) w w' := by
  cases h : okH t l with
  | false =>
    have e : mTakeI M ⟨t, l, s, r, x⟩ = (M, ⟨t, l, s, r, x⟩) := by unfold mTakeI; dsimp only; rw [h]; rfl
    rw [e]
    exact take8_no t l s r x a v M w h hA hl48
  | true =>
    obtain ⟨a', b', rfl, rfl, ha, hb⟩ := okH_yes h
    rw [mTakeI_nat ha hb]
    exact take8_yes a' b' s r x a v M w ha hb hA hl48
theorem drop8_any (t l s : Int) (r : Bool) (x : Int) (a : Nat) (v : Value) (M : MemS) (w : World) (hA : MemAt w a v M) (hl48 : M.L.length = 48) : Calls Try.prog 32 #[.agg #[.int .i64 2, .int .i64 2, .int .i64 4, .int .i64 0, .int .i64 2], .pointer (some ⟨a, 0, none⟩), .agg #[.int .i64 t, .int .i64 l, .int .i64 s, .bool r, .int .i64 x]] w fun e w' => e = .returned (handV (mDropI M ⟨t, l, s, r, x⟩).2) ∧ MemAt w' a v (mDropI M ⟨t, l, s, r, x⟩).1 ∧ Keeps (own2m a v) w w' := by
  cases h : okH t l with
  | false =>
    have e : mDropI M ⟨t, l, s, r, x⟩ = (M, ⟨t, l, s, r, x⟩) := by unfold mDropI; dsimp only; rw [h]; rfl
    rw [e]
    exact drop8_no t l s r x a v M w h hA hl48
  | true =>
    obtain ⟨a', b', rfl, rfl, ha, hb⟩ := okH_yes h
    rw [mDropI_nat ha hb]
    exact drop8_yes a' b' s r x a v M w ha hb hA hl48
theorem rtake8_any (t l s : Int) (r : Bool) (x : Int) (a : Nat) (v : Value) (M : MemS) (w : World) (hA : RefAt w a v M) (hl48 : M.L.length = 48) : Calls Try.prog 34 #[.agg #[.int .i64 2, .int .i64 2, .int .i64 4, .int .i64 0, .int .i64 2], .pointer (some ⟨a, 0, none⟩), .agg #[.int .i64 t, .int .i64 l, .int .i64 s, .bool r, .int .i64 x]] w fun e w' => e = .returned (handV (mTakeI M ⟨t, l, s, r, x⟩).2) ∧ RefAt w' a v (mTakeI M ⟨t, l, s, r, x⟩).1 ∧ Keeps (own2m a v) w w' := by
  cases h : okH t l with
  | false =>
    have e : mTakeI M ⟨t, l, s, r, x⟩ = (M, ⟨t, l, s, r, x⟩) := by unfold mTakeI; dsimp only; rw [h]; rfl
    rw [e]
    exact rtake8_no t l s r x a v M w h hA hl48
  | true =>
    obtain ⟨a', b', rfl, rfl, ha, hb⟩ := okH_yes h
    rw [mTakeI_nat ha hb]
    exact rtake8_yes a' b' s r x a v M w ha hb hA hl48
theorem rdrop8_any (t l s : Int) (r : Bool) (x : Int) (a : Nat) (v : Value) (M : MemS) (w : World) (hA : RefAt w a v M) (hl48 : M.L.length = 48) : Calls Try.prog 33 #[.agg #[.int .i64 2, .int .i64 2, .int .i64 4, .int .i64 0, .int .i64 2], .pointer (some ⟨a, 0, none⟩), .agg #[.int .i64 t, .int .i64 l, .int .i64 s, .bool r, .int .i64 x]] w fun e w' => e = .returned (handV (mDropI M ⟨t, l, s, r, x⟩).2) ∧ RefAt w' a v (mDropI M ⟨t, l, s, r, x⟩).1 ∧ Keeps (own2m a v) w w' := by
  cases h : okH t l with
  | false =>
    have e : mDropI M ⟨t, l, s, r, x⟩ = (M, ⟨t, l, s, r, x⟩) := by unfold mDropI; dsimp only; rw [h]; rfl
    rw [e]
    exact rdrop8_no t l s r x a v M w h hA hl48
  | true =>
    obtain ⟨a', b', rfl, rfl, ha, hb⟩ := okH_yes h
    rw [mDropI_nat ha hb]
    exact rdrop8_yes a' b' s r x a v M w ha hb hA hl48
end Go.Proofs.Ytjchcmomppfilaa
