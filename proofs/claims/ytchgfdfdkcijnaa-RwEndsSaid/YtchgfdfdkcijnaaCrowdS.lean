/- A crowd beside a memory: what stays where in its laws. -/
import Derived.Test.YtchgfdfdkcijnaaCrowdW
import Derived.Test.YtchgfdfdkcijnaaCrowd
import Derived.Test.YtchgfdfdkcijnaaRwTold
namespace Go.Proofs.Ytchgfdfdkcijnaa
open Go.RowKit
structure CA (w wr : World) (a : Nat) (v : Value) (B C : Nat) (M : MemS) (f : Nat → HandS) (o : Nat → Bool) (n : Nat → Nat) : Prop where
  hm : MemAt wr a v M
  cr : CrowdAt wr C f o n
  mp : MapAt wr B 2 2 4 0 2
  kp : Keeps NoS w wr
structure CO (w : World) (a : Nat) (v : Value) (B C : Nat) : Prop where
  ow : ∀ i, own2m a v i → w.heap.size ≤ i
  oc : w.heap.size ≤ C
  nc : ¬ own2m a v C
  nb : ¬ own2m a v B
  ne : B ≠ C
section
variable {w wr w' : World} {a B C : Nat} {v : Value} {M M' : MemS} {f f' : Nat → HandS} {o o' : Nat → Bool} {n n' : Nat → Nat} {S : Nat → Prop} {t : Nat}
theorem CA.no (h : CA w wr a v B C M f o n) (k : Keeps NoS wr w') : CA w w' a v B C M f o n := ⟨h.hm.keep k (fun f => f) (fun _ _ f => f), h.cr.keep k (fun f => f), h.mp.keep k (fun f => f), h.kp.trans k⟩
theorem CA.step (h : CA w wr a v B C M f o n) (q : CO w a v B C) (hm : MemAt w' a v M') (hc : CrowdAt w' C f' o' n') (k : Keeps (fun i => own2m a v i ∨ i = C) wr w') : CA w w' a v B C M' f' o' n' :=
  ⟨hm, hc, h.mp.keep k (fun e => e.elim q.nb q.ne), h.kp.trans' k (fun i hi e => by
    rcases e with e | e
    · have := q.ow i e; omega
    · have := q.oc; omega)⟩
theorem ca_new {w W w2 : World} {a c : Nat} {v u : Value} {B : Nat} (hk : Keeps NoS w W) (hT : TwoR W w2 a c v u (M0 48) (M0 48)) (hB : MapAt W B 2 2 4 0 2) :
    ∃ w3 C, w2.alloc (.cells #[.int .i64 0, .int .i64 0, .int .i64 0, .bool false, .int .i64 0, .int .i64 0, .int .i64 0, .int .i64 0, .bool false, .int .i64 0, .int .i64 0, .int .i64 0, .int .i64 0, .bool false, .int .i64 0, .int .i64 0, .int .i64 0, .int .i64 0, .bool false, .int .i64 0, .bool false, .bool false, .bool false, .bool false, .int .i64 0, .int .i64 0, .int .i64 0, .int .i64 0] 66) = w3 ∧ w2.heap.size = C ∧ CA w w3 a v B C (M0 48) (fun _ => hand0) (fun _ => false) (fun _ => 0) ∧ CO w a v B C := by
  have k3 := (Keeps.refl NoS w2).alloc (.cells #[.int .i64 0, .int .i64 0, .int .i64 0, .bool false, .int .i64 0, .int .i64 0, .int .i64 0, .int .i64 0, .bool false, .int .i64 0, .int .i64 0, .int .i64 0, .int .i64 0, .bool false, .int .i64 0, .int .i64 0, .int .i64 0, .int .i64 0, .bool false, .int .i64 0, .bool false, .bool false, .bool false, .bool false, .int .i64 0, .int .i64 0, .int .i64 0, .int .i64 0] 66)
  have h1 := crowdAt_new w2 66
  have hBl : B < W.heap.size := World.block_lt_of_cell? W ⟨B, 0, none⟩ hB.1
  have hs := hk.size
  have hs2 := hT.s.kp.size
  refine ⟨_, _, rfl, rfl, ⟨hT.s.m.keep k3 (fun f => f) (fun _ _ f => f), h1, (hB.keep hT.s.kp (fun f => f)).keep k3 (fun f => f), (hk.trans hT.s.kp).trans k3⟩, ⟨fun i e => ?_, by omega, not_own (fun e => by have := blk_lt hT.s.m.hd; omega) (fun e => by have := hT.s.m.own_lt e; omega), not_own (fun e => by have := hT.s.na; omega) (fun e => by have := hT.s.nv B e; omega), by omega⟩⟩
  rcases e with e | e
  · have := hT.s.na; omega
  · have := hT.s.nv i e; omega
end
theorem M0_word (i : Nat) : (M0 48).word i = 0 := by
  show (List.replicate 48 (0 : Int)).getD i 0 = 0
  rw [List.getD_eq_getElem?_getD, List.getElem?_replicate]
  split <;> rfl
theorem pick4 (x : Int) : ∃ t : Nat, t < 4 ∧ (IntKind.u64.wrap x).tmod 4 = (t : Int) := by
  obtain ⟨h1, h2⟩ := u64_tmod_bd x 4 (by omega)
  exact ⟨((IntKind.u64.wrap x).tmod 4).toNat, by omega, by omega⟩
end Go.Proofs.Ytchgfdfdkcijnaa
