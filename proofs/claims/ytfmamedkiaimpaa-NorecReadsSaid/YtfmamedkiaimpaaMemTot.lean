/- The accesses of a memory at any place, of the program's and of the document's. -/
import Derived.Test.YtfmamedkiaimpaaMemSame
namespace Go.Proofs.Ytfmamedkiaimpaa
open Go.RowKit

def MemS.inR (M : MemS) (i : Int) : Bool := decide (0 ≤ i) && decide (i < (M.L.length : Int))
def MemS.codeP (M : MemS) (i : Int) : Int := if M.inR i then 0 else 2
def MemS.atP (M : MemS) (i : Int) : Int := if M.inR i then M.word i.toNat else 0
def MemS.swapOk (M : MemS) (i old : Int) : Bool := M.inR i && (M.word i.toNat == old)
def MemS.loadI (M : MemS) (i : Int) : MemS := if M.inR i then M.load i.toNat else M
def MemS.storeI (M : MemS) (i x : Int) : MemS := if M.inR i then M.store i.toNat x else M
def MemS.addI (M : MemS) (i x : Int) : MemS := if M.inR i then M.add i.toNat x else M
def MemS.swapI (M : MemS) (i old x : Int) : MemS := if M.inR i then M.swap i.toNat old x else M
theorem inR_yes {M : MemS} {i : Int} (h : M.inR i = true) : ∃ n : Nat, i = (n : Int) ∧ n < M.L.length := by
  simp only [MemS.inR, Bool.and_eq_true, decide_eq_true_eq] at h
  obtain ⟨n, rfl⟩ := Int.eq_ofNat_of_zero_le h.1
  exact ⟨n, rfl, by omega⟩
theorem inR_no {M : MemS} {i : Int} (h : M.inR i = false) : M.out i := by
  simp only [MemS.inR, Bool.and_eq_false_iff, decide_eq_false_iff_not] at h
  unfold MemS.out; omega
theorem inR_nat {M : MemS} {n : Nat} (h : n < M.L.length) : M.inR (n : Int) = true := by simp [MemS.inR, h]
theorem Keeps.no2 {S : Nat → Prop} {w w' : World} (h : Keeps NoS w w') : Keeps S w w' := h.no
theorem load_tot (a : Nat) (v : Value) (M : MemS) (i : Int) (w : World) (h : MemAt w a v M) :
    Calls Try.prog 52 #[.pointer (some ⟨a, 0, none⟩), .int .i64 i] w fun e w' => e = .returned (.tuple #[.int .i64 (M.atP i), .int .i64 (M.codeP i)]) ∧ MemAt w' a v (M.loadI i) ∧ Keeps (own2m a v) w w' := by
  cases hr : M.inR i with
  | true =>
    obtain ⟨n, rfl, hn⟩ := inR_yes hr
    simp only [MemS.atP, MemS.codeP, MemS.loadI, hr, if_true, Int.toNat_natCast]
    exact (load_ok a v M n w h hn).mono fun e w' ⟨h1, h2, h3⟩ => ⟨h1, h2, h3.mono fun _ e => .inl e⟩
  | false =>
    simp only [MemS.atP, MemS.codeP, MemS.loadI, hr, if_false, Bool.false_eq_true]
    exact (load_out a v M i w h (inR_no hr)).mono fun e w' ⟨h1, h2⟩ => ⟨h1, h.keep h2 (fun f => f) (fun _ _ f => f), h2.no⟩
theorem store_tot (a : Nat) (v : Value) (M : MemS) (i x : Int) (w : World) (h : MemAt w a v M) :
    Calls Try.prog 16 #[.pointer (some ⟨a, 0, none⟩), .int .i64 i, .int .i64 x] w fun e w' => e = .returned (.int .i64 (M.codeP i)) ∧ MemAt w' a v (M.storeI i x) ∧ Keeps (own2m a v) w w' := by
  cases hr : M.inR i with
  | true =>
    obtain ⟨n, rfl, hn⟩ := inR_yes hr
    simp only [MemS.codeP, MemS.storeI, hr, if_true, Int.toNat_natCast]
    exact store_ok a v M n x w h hn
  | false =>
    simp only [MemS.codeP, MemS.storeI, hr, if_false, Bool.false_eq_true]
    exact (store_out a v M i x w h (inR_no hr)).mono fun e w' ⟨h1, h2⟩ => ⟨h1, h.keep h2 (fun f => f) (fun _ _ f => f), h2.no⟩
theorem swap_tot (a : Nat) (v : Value) (M : MemS) (i old x : Int) (w : World) (h : MemAt w a v M) :
    Calls Try.prog 76 #[.pointer (some ⟨a, 0, none⟩), .int .i64 i, .int .i64 old, .int .i64 x] w fun e w' => e = .returned (.tuple #[.int .i64 (M.atP i), .bool (M.swapOk i old), .int .i64 (M.codeP i)]) ∧ MemAt w' a v (M.swapI i old x) ∧ Keeps (own2m a v) w w' := by
  cases hr : M.inR i with
  | true =>
    obtain ⟨n, rfl, hn⟩ := inR_yes hr
    simp only [MemS.atP, MemS.codeP, MemS.swapI, MemS.swapOk, hr, if_true, Int.toNat_natCast, Bool.true_and]
    cases ho : (M.word n == old) with
    | true => exact swap_yes a v M n old x w h hn ho
    | false => exact swap_no a v M n old x w h hn ho
  | false =>
    simp only [MemS.atP, MemS.codeP, MemS.swapI, MemS.swapOk, hr, if_false, Bool.false_eq_true, Bool.false_and]
    exact (swap_out a v M i old x w h (inR_no hr)).mono fun e w' ⟨h1, h2⟩ => ⟨h1, h.keep h2 (fun f => f) (fun _ _ f => f), h2.no⟩
theorem peek_tot (a : Nat) (v : Value) (M : MemS) (i : Int) (w : World) (h : MemAt w a v M) :
    Calls Try.prog 18 #[.pointer (some ⟨a, 0, none⟩), .int .i64 i] w fun e w' => e = .returned (.int .i64 (M.atP i)) ∧ w = w' := by
  cases hr : M.inR i with
  | true =>
    obtain ⟨n, rfl, hn⟩ := inR_yes hr
    simp only [MemS.atP, hr, if_true, Int.toNat_natCast]
    exact peek_at a v M n w h hn
  | false =>
    simp only [MemS.atP, hr, if_false, Bool.false_eq_true]
    exact peek_none a v M i w h (inR_no hr)
theorem did_len (M : MemS) (x : Acc) : (M.did x).L = M.L := rfl
theorem loadI_L (M : MemS) (i : Int) : (M.loadI i).L = M.L := by unfold MemS.loadI; split <;> rfl
theorem storeI_len (M : MemS) (i x : Int) : (M.storeI i x).L.length = M.L.length := by unfold MemS.storeI MemS.store; split <;> simp
theorem addI_len (M : MemS) (i x : Int) : (M.addI i x).L.length = M.L.length := by unfold MemS.addI MemS.add; split <;> simp
theorem swapI_len (M : MemS) (i old x : Int) : (M.swapI i old x).L.length = M.L.length := by
  unfold MemS.swapI MemS.swap
  split
  · simp only; split <;> simp
  · rfl
end Go.Proofs.Ytfmamedkiaimpaa
