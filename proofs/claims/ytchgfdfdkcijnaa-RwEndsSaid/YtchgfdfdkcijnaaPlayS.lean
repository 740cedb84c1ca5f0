/- What play has at hand: a memory, a map, four hands, their counts, who is on its way out, two rows. -/
import Derived.Test.YtchgfdfdkcijnaaMcsPlay
import Derived.Test.YtchgfdfdkcijnaaRuns
import Derived.Test.YtchgfdfdkcijnaaMcsTold
import Derived.Test.YtchgfdfdkcijnaaMemAll
namespace Go.Proofs.Ytchgfdfdkcijnaa
open Go.RowKit
/-- four numbers -/
def NumsAt (w : World) (O : Nat) (n : Nat → Nat) : Prop := ∃ (cs : Array Value) (T : TypeId), w.heap[O]? = some (.cells cs T (0, 0)) ∧ cs.size = 4 ∧ ∀ t, t < 4 → cs[t]? = some (.int .i64 (n t : Nat))
section
variable {w w' : World} {O : Nat} {n : Nat → Nat} {S : Nat → Prop}
theorem NumsAt.keep (h : NumsAt w O n) (k : Keeps S w w') (hO : ¬ S O) : NumsAt w' O n := by
  obtain ⟨cs, T, h1, h2, h3⟩ := h
  exact ⟨cs, T, k.blk h1 hO, h2, h3⟩
theorem NumsAt.cell (h : NumsAt w O n) {t : Nat} (ht : t < 4) : w.cell? ⟨O, t, none⟩ = some (.int .i64 (n t : Nat)) := by
  obtain ⟨cs, T, h1, h2, h3⟩ := h
  rw [blk_cell h1, h3 t ht]
theorem NumsAt.free (h : NumsAt w O n) (j : Nat) : w.frozen? ⟨O, j, none⟩ = false := by
  obtain ⟨cs, T, h1, h2, h3⟩ := h
  exact blk_free h1 j
theorem NumsAt.lt (h : NumsAt w O n) : O < w.heap.size := by
  obtain ⟨cs, T, h1, h2, h3⟩ := h
  exact blk_lt h1
theorem NumsAt.up (h : NumsAt w O n) {t : Nat} (ht : t < 4) : NumsAt (w.setCell ⟨O, t, none⟩ (.int .i64 ((n t : Nat) + 1 : Int))) O (nput n t) := by
  obtain ⟨cs, T, h1, h2, h3⟩ := h
  refine ⟨_, T, blk_set h1 t _, by simpa using h2, fun k hk => ?_⟩
  unfold nput
  rw [Array.getElem?_setIfInBounds]
  by_cases e : t = k
  · subst e; simp [h2, hk]
  · rw [if_neg e, if_neg (Ne.symm e)]; exact h3 k hk
theorem numsAt_new (w : World) (T : TypeId) : NumsAt (w.alloc (.cells #[.int .i64 0, .int .i64 0, .int .i64 0, .int .i64 0] T)) w.heap.size (fun _ => 0) := by
  refine ⟨_, T, heap_alloc_new _ _, rfl, fun t ht => ?_⟩
  match t, ht with
  | 0, _ => rfl
  | 1, _ => rfl
  | 2, _ => rfl
  | 3, _ => rfl
end
structure PW (w wr : World) (a : Nat) (v : Value) (B H N O : Nat) (M : MemS) (f : Nat → HandS) (n : Nat → Nat) (o : Nat → Bool) (v1 v2 : Value) (l1 l2 : List Nat) : Prop where
  hm : MemAt wr a v M
  kp : Keeps (own2m a v) w wr
  mp : MapAt wr B 2 2 4 0 2
  hx : HandsAt 4 wr H f
  hn : NumsAt wr N n
  ho : BoolsAt wr O o
  r1 : RowI 3 wr (O + 1) v1 (natsI l1)
  r2 : RowI 3 wr (O + 1) v2 (natsI l2)
  ap : ∀ g, v1.ownBlock = some g → v2.ownBlock ≠ some g
/-- how the blocks lie -/
structure Ord4 (w : World) (a : Nat) (v : Value) (B H N O : Nat) : Prop where
  ow : ∀ i, own2m a v i → i < B
  wb : w.heap.size ≤ B
  bh : B < H
  hn : H < N
  no : N < O
section
variable {w wr w' : World} {a B H N O : Nat} {v v1 v2 : Value} {M M' : MemS} {f : Nat → HandS} {n : Nat → Nat} {o : Nat → Bool} {l1 l2 : List Nat} {S : Nat → Prop}
theorem PW.no (h : PW w wr a v B H N O M f n o v1 v2 l1 l2) (k : Keeps NoS wr w') : PW w w' a v B H N O M f n o v1 v2 l1 l2 :=
  ⟨h.hm.keep k (fun f => f) (fun _ _ f => f), h.kp.trans k.no, h.mp.keep k (fun f => f), h.hx.keep k (fun f => f), h.hn.keep k (fun f => f), h.ho.keep k (fun f => f), h.r1.no k, h.r2.no k, h.ap⟩
theorem PW.turn (h : PW w wr a v B H N O M f n o v1 v2 l1 l2) (q : Ord4 w a v B H N O) (hm : MemAt w' a v M') (k : Keeps (own2m a v) wr w') : PW w w' a v B H N O M' f n o v1 v2 l1 l2 := by
  have hB := q.bh; have hH := q.hn; have hN := q.no
  exact ⟨hm, h.kp.trans k, h.mp.keep k (fun e => by have := q.ow _ e; omega), h.hx.keep k (fun e => by have := q.ow _ e; omega), h.hn.keep k (fun e => by have := q.ow _ e; omega), h.ho.keep k (fun e => by have := q.ow _ e; omega),
    h.r1.keep k (fun g hg e => by have := q.ow _ e; have := h.r1.lo g hg; omega), h.r2.keep k (fun g hg e => by have := q.ow _ e; have := h.r2.lo g hg; omega), h.ap⟩
theorem PW.memk (h : PW w wr a v B H N O M f n o v1 v2 l1 l2) (q : Ord4 w a v B H N O) (k : Keeps S wr w') (hS : ∀ g, S g → B ≤ g) : MemAt w' a v M ∧ Keeps (own2m a v) w w' :=
  ⟨h.hm.keep k (fun e => by have := hS _ e; have := q.ow a (.inl rfl); omega) (fun g hg e => by have := hS _ e; have := q.ow g (.inr hg); omega), h.kp.trans' k (fun i hi e => by have := hS _ e; have := q.wb; omega)⟩
theorem PW.hand (h : PW w wr a v B H N O M f n o v1 v2 l1 l2) (q : Ord4 w a v B H N O) {t : Nat} (ht : t < 4) (x : HandS) : PW w (setH wr H t x) a v B H N O M (hput f t x) n o v1 v2 l1 l2 := by
  have hB := q.bh; have hH := q.hn; have hN := q.no
  have k := keeps_setH wr H t x
  have hk := h.memk q k (fun g e => by have e' : g = H := e; omega)
  exact ⟨hk.1, hk.2, h.mp.keep k (fun e => by have e' : B = H := e; omega), h.hx.setH t ht x, h.hn.keep k (fun e => by have e' : N = H := e; omega), h.ho.keep k (fun e => by have e' : O = H := e; omega),
    h.r1.keep k (fun g hg e => by have e' : g = H := e; have := h.r1.lo g hg; omega), h.r2.keep k (fun g hg e => by have e' : g = H := e; have := h.r2.lo g hg; omega), h.ap⟩
theorem PW.count (h : PW w wr a v B H N O M f n o v1 v2 l1 l2) (q : Ord4 w a v B H N O) {t : Nat} (ht : t < 4) : PW w (wr.setCell ⟨N, t, none⟩ (.int .i64 ((n t : Nat) + 1 : Int))) a v B H N O M f (nput n t) o v1 v2 l1 l2 := by
  have hB := q.bh; have hH := q.hn; have hN := q.no
  have k := keeps_cell wr N t (.int .i64 ((n t : Nat) + 1 : Int))
  have hk := h.memk q k (fun g e => by have e' : g = N := e; omega)
  exact ⟨hk.1, hk.2, h.mp.keep k (fun e => by have e' : B = N := e; omega), h.hx.keep k (fun e => by have e' : H = N := e; omega), h.hn.up ht, h.ho.keep k (fun e => by have e' : O = N := e; omega),
    h.r1.keep k (fun g hg e => by have e' : g = N := e; have := h.r1.lo g hg; omega), h.r2.keep k (fun g hg e => by have e' : g = N := e; have := h.r2.lo g hg; omega), h.ap⟩
theorem PW.out (h : PW w wr a v B H N O M f n o v1 v2 l1 l2) (q : Ord4 w a v B H N O) {t : Nat} (ht : t < 4) (b : Bool) : PW w (wr.setCell ⟨O, t, none⟩ (.bool b)) a v B H N O M f n (bput o t b) v1 v2 l1 l2 := by
  have hB := q.bh; have hH := q.hn; have hN := q.no
  have k := keeps_cell wr O t (.bool b)
  have hk := h.memk q k (fun g e => by have e' : g = O := e; omega)
  exact ⟨hk.1, hk.2, h.mp.keep k (fun e => by have e' : B = O := e; omega), h.hx.keep k (fun e => by have e' : H = O := e; omega), h.hn.keep k (fun e => by have e' : N = O := e; omega), h.ho.set ht b,
    h.r1.keep k (fun g hg e => by have e' : g = O := e; have := h.r1.lo g hg; omega), h.r2.keep k (fun g hg e => by have e' : g = O := e; have := h.r2.lo g hg; omega), h.ap⟩
theorem PW.app1 {v1' : Value} {l1' : List Nat} (h : PW w wr a v B H N O M f n o v1 v2 l1 l2) (q : Ord4 w a v B H N O) (hr : RowI 3 w' (O + 1) v1' (natsI l1')) (hg : wr.grownBy w' v1.ownBlock) (hb : ∀ g, v1'.ownBlock = some g → v1.ownBlock = some g ∨ g = wr.heap.size) : PW w w' a v B H N O M f n o v1' v2 l1' l2 := by
  have hB := q.bh; have hH := q.hn; have hN := q.no
  have k : Keeps (fun g => v1.ownBlock = some g) wr w' := (Keeps.refl _ wr).grown hg (fun g hg _ => hg)
  have hk := h.memk q k (fun g e => by have := h.r1.lo g e; omega)
  refine ⟨hk.1, hk.2, h.mp.keep k (fun e => by have := h.r1.lo _ e; omega), h.hx.keep k (fun e => by have := h.r1.lo _ e; omega), h.hn.keep k (fun e => by have := h.r1.lo _ e; omega), h.ho.keep k (fun e => by have := h.r1.lo _ e; omega), hr,
    h.r2.keep k (fun g hg e => h.ap g e hg), fun g hg e => ?_⟩
  rcases hb g hg with h1 | h1
  · exact h.ap g h1 e
  · have := h.r2.lt e; omega
theorem PW.app2 {v2' : Value} {l2' : List Nat} (h : PW w wr a v B H N O M f n o v1 v2 l1 l2) (q : Ord4 w a v B H N O) (hr : RowI 3 w' (O + 1) v2' (natsI l2')) (hg : wr.grownBy w' v2.ownBlock) (hb : ∀ g, v2'.ownBlock = some g → v2.ownBlock = some g ∨ g = wr.heap.size) : PW w w' a v B H N O M f n o v1 v2' l1 l2' := by
  have hB := q.bh; have hH := q.hn; have hN := q.no
  have k : Keeps (fun g => v2.ownBlock = some g) wr w' := (Keeps.refl _ wr).grown hg (fun g hg _ => hg)
  have hk := h.memk q k (fun g e => by have := h.r2.lo g e; omega)
  refine ⟨hk.1, hk.2, h.mp.keep k (fun e => by have := h.r2.lo _ e; omega), h.hx.keep k (fun e => by have := h.r2.lo _ e; omega), h.hn.keep k (fun e => by have := h.r2.lo _ e; omega), h.ho.keep k (fun e => by have := h.r2.lo _ e; omega),
    h.r1.keep k (fun g hg e => h.ap g hg e), hr, fun g hg e => ?_⟩
  rcases hb g e with h1 | h1
  · exact h.ap g hg h1
  · have := h.r1.lt hg; omega
end
/-- the hands are what the words tell -/
def FO (f : Nat → HandS) (o : Nat → Bool) (A : QA) : Prop := ∀ t, t < 4 → f t = ⟨t, 0, A.s t, false, A.x t⟩ ∧ (o t = true ↔ isOut (A.s t))
theorem FO.put {f : Nat → HandS} {o : Nat → Bool} {A A' : QA} {t : Nat} (h : FO f o A) (hs : ∀ q, q ≠ t → A'.s q = A.s q ∧ A'.x q = A.x q) {o' : Nat → Bool} (ho : ∀ q, q ≠ t → o' q = o q) (hb : o' t = true ↔ isOut (A'.s t)) : FO (hput f t ⟨t, 0, A'.s t, false, A'.x t⟩) o' A' := fun k hk => by
  unfold hput
  by_cases e : k = t
  · subst e; exact ⟨by simp, hb⟩
  · simp only [if_neg e]; rw [ho k e, (hs k e).1, (hs k e).2]; exact h k hk
theorem bput_ne {o : Nat → Bool} {t k : Nat} {q : Bool} (h : k ≠ t) : bput o t q k = o k := if_neg h
theorem bput_same {o : Nat → Bool} {t : Nat} {q : Bool} : bput o t q t = q := if_pos rfl
/-- how many of the first hold it -/
def hcN (f : Nat → HandS) : Nat → Nat
  | 0 => 0
  | k + 1 => hcN f k + if (f k).s = 9 then 1 else 0
theorem hcN_le (f : Nat → HandS) : ∀ k, hcN f k ≤ k
  | 0 => Nat.le_refl _
  | k + 1 => by have := hcN_le f k; unfold hcN; split <;> omega
theorem hcN_one {f : Nat → HandS} (h : ∀ i j, i < 4 → j < 4 → (f i).s = 9 → (f j).s = 9 → i = j) : hcN f 4 ≤ 1 := by
  have key : ∀ k, k ≤ 4 → hcN f k ≤ 1 ∧ (hcN f k = 1 → ∃ i, i < k ∧ (f i).s = 9) := by
    intro k
    induction k with
    | zero => intro _; exact ⟨Nat.zero_le 1, fun h => absurd h (show ¬ (0 : Nat) = 1 by decide)⟩
    | succ k ih =>
      intro hk
      obtain ⟨h1, h2⟩ := ih (by omega)
      unfold hcN
      by_cases e : (f k).s = 9
      · rw [if_pos e]
        by_cases e1 : hcN f k = 1
        · obtain ⟨i, hi, hs⟩ := h2 e1
          have := h i k (by omega) (by omega) hs e
          omega
        · exact ⟨by omega, fun _ => ⟨k, by omega, e⟩⟩
      · rw [if_neg e]
        exact ⟨by omega, fun h3 => by obtain ⟨i, hi, hs⟩ := h2 (by omega); exact ⟨i, by omega, hs⟩⟩
  exact (key 4 (by decide)).1
theorem FO.one {f : Nat → HandS} {o : Nat → Bool} {A : QA} {Q : List Nat} (h : FO f o A) (hq : QI A Q) : hcN f 4 ≤ 1 :=
  hcN_one fun i j hi hj h1 h2 => by
    rw [(h i hi).1] at h1
    rw [(h j hj).1] at h2
    exact hq.one hi hj h1 h2
theorem PyS.dnle {k : Nat} {M : MemS} {n : Nat → Nat} {dn Q : List Nat} {A : QA} (h : PyS k M n dn Q A) (hk : k ≤ 3) : dn.length ≤ 12 := by
  have h0 := h.nk 0 (by decide); have h1 := h.nk 1 (by decide); have h2 := h.nk 2 (by decide); have h3 := h.nk 3 (by decide)
  rw [h.cn]; omega
theorem nodup_le4 {Q : List Nat} (h : Q.Nodup) (hl : ∀ q ∈ Q, q < 4) : Q.length ≤ 4 := by
  have h1 : Q.Subset (List.range 4) := fun q hq => List.mem_range.2 (hl q hq)
  have := List.Nodup.length_le_of_subset h h1
  simpa using this
theorem PyS.lens {k : Nat} {M : MemS} {n : Nat → Nat} {dn Q : List Nat} {A : QA} (h : PyS k M n dn Q A) (hk : k ≤ 3) : (natsI (dn ++ Q)).length ≤ 10000 ∧ (natsI (hadQ A dn Q)).length ≤ 10000 := by
  have h1 := h.dnle hk
  have h2 := nodup_le4 h.q.nd h.q.lt
  rw [natsI_len, natsI_len, List.length_append]
  refine ⟨by omega, ?_⟩
  cases Q with
  | nil => rw [hadQ_nil]; omega
  | cons a r =>
    rw [hadQ_cons]
    split
    · omega
    · rw [List.length_append, List.length_singleton]; omega
/-- a step to hold it, as the walk has it -/
theorem PyS.takeI {k : Nat} {M : MemS} {n : Nat → Nat} {dn Q : List Nat} {A : QA} {t : Nat} (h : PyS k M n dn Q A) (ht : t < 4) (htk : n t < k) (hs : ¬ isOut (A.s t)) :
    ∃ M' A' Q', mTakeI M ⟨t, 0, A.s t, false, A.x t⟩ = (M', ⟨t, 0, A'.s t, false, A'.x t⟩) ∧ PyS k M' n dn Q' A' ∧ M'.st = wrap64 (M.st + 1) ∧ (∀ q, q ≠ t → A'.s q = A.s q ∧ A'.x q = A.x q) ∧
      dn ++ Q' = (if swD M' then dn ++ Q ++ [t] else dn ++ Q) ∧ hadQ A' dn Q' = (if A'.s t = 9 then hadQ A dn Q ++ [t] else hadQ A dn Q) ∧ (isOut (A'.s t) → A'.s t = 9) ∧ (∀ d c, RC A n k d c Q → Near n n k d c t A' Q') := by
  obtain ⟨M', A', Q', h1, h2⟩ := h.take ht htk hs false
  exact ⟨M', A', Q', (mTakeI_nat ht (l := 0) (by decide) (A.s t) false (A.x t)).trans h1, h2⟩
theorem PyS.dropI {k : Nat} {M : MemS} {n : Nat → Nat} {dn Q : List Nat} {A : QA} {t : Nat} (h : PyS k M n dn Q A) (ht : t < 4) (hs : isOut (A.s t)) :
    ∃ M' A' Q' dn' n', mDropI M ⟨t, 0, A.s t, false, A.x t⟩ = (M', ⟨t, 0, A'.s t, false, A'.x t⟩) ∧ PyS k M' n' dn' Q' A' ∧ M'.st = wrap64 (M.st + 1) ∧ (∀ q, q ≠ t → A'.s q = A.s q ∧ A'.x q = A.x q) ∧
      dn' ++ Q' = dn ++ Q ∧ hadQ A' dn' Q' = hadQ A dn Q ∧ (n' = if A'.s t = 0 then nput n t else n) ∧ (A'.s t = 0 ∨ (isOut (A'.s t) ∧ ¬ A'.s t = 9)) ∧ (∀ d c, RC A n k d c Q → Near n n' k d c t A' Q') := by
  obtain ⟨M', A', Q', dn', n', h1, h2⟩ := h.drop ht hs false
  exact ⟨M', A', Q', dn', n', (mDropI_nat ht (l := 0) (by decide) (A.s t) false (A.x t)).trans h1, h2⟩
end Go.Proofs.Ytchgfdfdkcijnaa
