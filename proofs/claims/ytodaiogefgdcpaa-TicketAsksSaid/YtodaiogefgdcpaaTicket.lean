/- The functions of package ticket, and the document's own, each with what it computes. -/
import Derived.Test.YtodaiogefgdcpaaBox
namespace Go.Proofs.Ytodaiogefgdcpaa
open Go.RowKit

def fitB (m : MapS) (n : Nat) (t l : Int) : Bool := decide (sizeP m ≤ (n : Int)) && decide (0 ≤ threadP m t 0) && decide (0 ≤ lockP m l 0)
/-- what boxes a walk reads -/
def MH (B H : Nat) (ms ml mt mc md t l s : Int) (r : Bool) (x : Int) (w' : World) : Prop := (w'.cell? ⟨B, 0, none⟩ = some (.int .i64 ms) ∧ w'.cell? ⟨B, 1, none⟩ = some (.int .i64 ml) ∧ w'.cell? ⟨B, 2, none⟩ = some (.int .i64 mt) ∧ w'.cell? ⟨B, 3, none⟩ = some (.int .i64 mc) ∧ w'.cell? ⟨B, 4, none⟩ = some (.int .i64 md)) ∧ (w'.cell? ⟨H, 0, none⟩ = some (.int .i64 t) ∧ w'.cell? ⟨H, 1, none⟩ = some (.int .i64 l) ∧ w'.cell? ⟨H, 2, none⟩ = some (.int .i64 s) ∧ w'.cell? ⟨H, 3, none⟩ = some (.bool r) ∧ w'.cell? ⟨H, 4, none⟩ = some (.int .i64 x))
theorem MH.keep {S : Nat → Prop} {B H : Nat} {ms ml mt mc md t l s : Int} {r : Bool} {x : Int} {w w' : World} (h : MH B H ms ml mt mc md t l s r x w) (k : Keeps S w w') (h1 : ¬ S B) (h2 : ¬ S H) : MH B H ms ml mt mc md t l s r x w' := by
  obtain ⟨⟨a0, a1, a2, a3, a4⟩, b0, b1, b2, b3, b4⟩ := h
  exact ⟨⟨k.cell a0 h1, k.cell a1 h1, k.cell a2 h1, k.cell a3 h1, k.cell a4 h1⟩, k.cell b0 h2, k.cell b1 h2, k.cell b2 h2, k.cell b3 h2, k.cell b4 h2⟩
theorem MH.no {B H : Nat} {ms ml mt mc md t l s : Int} {r : Bool} {x : Int} {w w' : World} (h : MH B H ms ml mt mc md t l s r x w) (k : Keeps NoS w w') : MH B H ms ml mt mc md t l s r x w' := h.keep k (fun f => f) (fun f => f)
theorem MH.drew {B H : Nat} {ms ml mt mc md t l s : Int} {r : Bool} {x : Int} {w : World} (h : MH B H ms ml mt mc md t l s r x w) : MH B H ms ml mt mc md t l s r x w.drew := h
theorem mh_new (w : World) (ms ml mt mc md t l s : Int) (r : Bool) (x : Int) (T U : TypeId) : MH w.heap.size (w.heap.size + 1) ms ml mt mc md t l s r x ((w.alloc (.cells #[.int .i64 ms, .int .i64 ml, .int .i64 mt, .int .i64 mc, .int .i64 md] T)).alloc (.cells #[.int .i64 t, .int .i64 l, .int .i64 s, .bool r, .int .i64 x] U)) := by
  have h1 : ((w.alloc (.cells #[.int .i64 ms, .int .i64 ml, .int .i64 mt, .int .i64 mc, .int .i64 md] T)).alloc (.cells #[.int .i64 t, .int .i64 l, .int .i64 s, .bool r, .int .i64 x] U)).heap[w.heap.size]? = some (.cells #[.int .i64 ms, .int .i64 ml, .int .i64 mt, .int .i64 mc, .int .i64 md] T (0, 0)) := by
    rw [Below.heap_alloc _ _ _ (by simp)]; exact heap_alloc_new _ _
  have h2 : ((w.alloc (.cells #[.int .i64 ms, .int .i64 ml, .int .i64 mt, .int .i64 mc, .int .i64 md] T)).alloc (.cells #[.int .i64 t, .int .i64 l, .int .i64 s, .bool r, .int .i64 x] U)).heap[w.heap.size + 1]? = some (.cells #[.int .i64 t, .int .i64 l, .int .i64 s, .bool r, .int .i64 x] U (0, 0)) := by
    have := heap_alloc_new (w.alloc (.cells #[.int .i64 ms, .int .i64 ml, .int .i64 mt, .int .i64 mc, .int .i64 md] T)) (.cells #[.int .i64 t, .int .i64 l, .int .i64 s, .bool r, .int .i64 x] U)
    simpa using this
  refine ⟨⟨?_, ?_, ?_, ?_, ?_⟩, ?_, ?_, ?_, ?_, ?_⟩
  all_goals first | (rw [blk_cell h1]; rfl) | (rw [blk_cell h2]; rfl)
set_option maxHeartbeats 1000000 in
theorem fits_any (ms ml mt mc md t l s : Int) (r : Bool) (x : Int) (a : Nat) (v : Value) (M : MemS) (w : World) (hA : MemAt w a v M) : Calls Try.prog 59 #[.agg #[.int .i64 ms, .int .i64 ml, .int .i64 mt, .int .i64 mc, .int .i64 md], .pointer (some ⟨a, 0, none⟩), .agg #[.int .i64 t, .int .i64 l, .int .i64 s, .bool r, .int .i64 x]] w fun e w' => e = .returned (.bool (fitB ⟨ms, ml, mt, mc, md⟩ M.L.length t l)) ∧ Keeps NoS w w' := by
  unfold fitB
  obtain ⟨sz, hsz⟩ : ∃ sz, sizeP ⟨ms, ml, mt, mc, md⟩ = sz := ⟨_, rfl⟩
  obtain ⟨th, hth⟩ : ∃ th, threadP ⟨ms, ml, mt, mc, md⟩ t 0 = th := ⟨_, rfl⟩
  obtain ⟨lk, hlk⟩ : ∃ lk, lockP ⟨ms, ml, mt, mc, md⟩ l 0 = lk := ⟨_, rfl⟩
  rw [hsz, hth, hlk]
  have HSZ := Lib.hid hsz; have HTH := Lib.hid hth; have HLK := Lib.hid hlk
  have hmh := mh_new w ms ml mt mc md t l s r x 25 32
  have hA2 := (hA.keep (((Keeps.refl NoS w).alloc (.cells #[.int .i64 ms, .int .i64 ml, .int .i64 mt, .int .i64 mc, .int .i64 md] 25)).alloc (.cells #[.int .i64 t, .int .i64 l, .int .i64 s, .bool r, .int .i64 x] 32)) (fun f => f) (fun _ _ f => f)).drew
  clear hsz hth hlk hA
  cases d1 : decide (sz ≤ (M.L.length : Int)) with
  | false =>
    go_enter Try.func59, Try.ntmps59
    go_wp2_with fail
    refine wp_region_held_drew (S := (fun w' => (w'.cell? ⟨w.heap.size, 0, none⟩ = some (.int .i64 ms) ∧ w'.cell? ⟨w.heap.size, 1, none⟩ = some (.int .i64 ml) ∧ w'.cell? ⟨w.heap.size, 2, none⟩ = some (.int .i64 mt) ∧ w'.cell? ⟨w.heap.size, 3, none⟩ = some (.int .i64 mc) ∧ w'.cell? ⟨w.heap.size, 4, none⟩ = some (.int .i64 md)) ∧ (w'.cell? ⟨w.heap.size + 1, 0, none⟩ = some (.int .i64 t) ∧ w'.cell? ⟨w.heap.size + 1, 1, none⟩ = some (.int .i64 l) ∧ w'.cell? ⟨w.heap.size + 1, 2, none⟩ = some (.int .i64 s) ∧ w'.cell? ⟨w.heap.size + 1, 3, none⟩ = some (.bool r) ∧ w'.cell? ⟨w.heap.size + 1, 4, none⟩ = some (.int .i64 x)))) (by kernel_rfl) (hmh.drew) (fun hHeld => ?_)
    refine wpAnyH_take (i := 0) (v := ?_) (by simp only [List.getElem?_toArray, List.getElem?_cons_succ, List.getElem?_cons_zero]; rfl) (by kernel_rfl) (by kernel_rfl) (by kernel_rfl) (by exact fun _ _ _ h => h) (Or.inl ⟨by rfl, ?_⟩) hHeld ?_
    rotate_left
    · intro w hSw; (try dsimp only at hSw); go_simp; (try with_reducible rfl)
    try simp only [Act.put, List.setIfInBounds_toArray, List.set_cons_zero, List.set_cons_succ]
    refine wpAnyH_take (i := 2) (v := ?_) (by simp only [List.getElem?_toArray, List.getElem?_cons_succ, List.getElem?_cons_zero]; rfl) (by kernel_rfl) (by kernel_rfl) (by kernel_rfl) (by exact fun _ _ _ h => h) (Or.inl ⟨by rfl, ?_⟩) hHeld ?_
    rotate_left
    · intro w hSw; (try dsimp only at hSw); go_simp; (try with_reducible rfl)
    try simp only [Act.put, List.setIfInBounds_toArray, List.set_cons_zero, List.set_cons_succ]
    refine wpAnyH_ready (rs := [1]) (by kernel_rfl) (by simp) ?_
    refine AllReadyH.cons (by simp only [List.getElem?_toArray, List.getElem?_cons_succ, List.getElem?_cons_zero]; rfl) (fun kC hkC => ?_) AllReadyH.nil
    go_simp
    refine (mlen_any a v M _ hA2).mono ?_; rintro e w1 ⟨rfl, rfl⟩
    (try go_wp2_with fail)
    refine hkC.out _ _ (hmh.drew) (fun hHeld => ?_)
    clear hkC kC
    try simp only [Act.put, List.setIfInBounds_toArray, List.set_cons_zero, List.set_cons_succ]
    refine wpAnyH_ready (rs := [3]) (by kernel_rfl) (by simp) ?_
    refine AllReadyH.cons (by simp only [List.getElem?_toArray, List.getElem?_cons_succ, List.getElem?_cons_zero]; rfl) (fun kC hkC => ?_) AllReadyH.nil
    go_simp
    refine (size_lit ms ml mt mc md sz HSZ.out _).mono ?_; rintro e w2 ⟨rfl, hk2⟩
    (try go_wp2_with fail)
    refine hkC.out _ _ (hmh.drew.no hk2) (fun hHeld => ?_)
    clear hkC kC
    try simp only [Act.put, List.setIfInBounds_toArray, List.set_cons_zero, List.set_cons_succ]
    refine wpAnyH_take (i := 4) (v := ?_) (by simp only [List.getElem?_toArray, List.getElem?_cons_succ, List.getElem?_cons_zero]; rfl) (by kernel_rfl) (by kernel_rfl) (by kernel_rfl) (by exact fun _ _ _ h => h) (Or.inl ⟨by rfl, ?_⟩) hHeld ?_
    rotate_left
    · intro w hSw; (try dsimp only at hSw); go_simp; (try with_reducible rfl)
    try simp only [Act.put, List.setIfInBounds_toArray, List.set_cons_zero, List.set_cons_succ]
    refine wpAnyH_take (i := 5) (v := ?_) (by simp only [List.getElem?_toArray, List.getElem?_cons_succ, List.getElem?_cons_zero]; rfl) (by kernel_rfl) (by kernel_rfl) (by kernel_rfl) (by exact fun _ _ _ h => h) (Or.inl ⟨by rfl, ?_⟩) hHeld ?_
    rotate_left
    · intro w hSw; (try dsimp only at hSw); go_simp; (try with_reducible rfl)
    try simp only [Act.put, List.setIfInBounds_toArray, List.set_cons_zero, List.set_cons_succ]
    refine wpAnyH_take (i := 6) (v := undef) (by simp only [List.getElem?_toArray, List.getElem?_cons_succ, List.getElem?_cons_zero]; rfl) (by kernel_rfl) (by kernel_rfl) (by kernel_rfl) (by exact fun _ _ _ h => h) (Or.inr ⟨by rfl, rfl⟩) hHeld ?_
    try simp only [Act.put, List.setIfInBounds_toArray, List.set_cons_zero, List.set_cons_succ]
    refine wpAnyH_take (i := 7) (v := undef) (by simp only [List.getElem?_toArray, List.getElem?_cons_succ, List.getElem?_cons_zero]; rfl) (by kernel_rfl) (by kernel_rfl) (by kernel_rfl) (by exact fun _ _ _ h => h) (Or.inr ⟨by rfl, rfl⟩) hHeld ?_
    try simp only [Act.put, List.setIfInBounds_toArray, List.set_cons_zero, List.set_cons_succ]
    refine wpAnyH_take (i := 8) (v := undef) (by simp only [List.getElem?_toArray, List.getElem?_cons_succ, List.getElem?_cons_zero]; rfl) (by kernel_rfl) (by kernel_rfl) (by kernel_rfl) (by exact fun _ _ _ h => h) (Or.inr ⟨by rfl, rfl⟩) hHeld ?_
    try simp only [Act.put, List.setIfInBounds_toArray, List.set_cons_zero, List.set_cons_succ]
    refine wpAnyH_take (i := 9) (v := undef) (by simp only [List.getElem?_toArray, List.getElem?_cons_succ, List.getElem?_cons_zero]; rfl) (by kernel_rfl) (by kernel_rfl) (by kernel_rfl) (by exact fun _ _ _ h => h) (Or.inr ⟨by rfl, rfl⟩) hHeld ?_
    try simp only [Act.put, List.setIfInBounds_toArray, List.set_cons_zero, List.set_cons_succ]
    refine wpAnyH_take (i := 10) (v := undef) (by simp only [List.getElem?_toArray, List.getElem?_cons_succ, List.getElem?_cons_zero]; rfl) (by kernel_rfl) (by kernel_rfl) (by kernel_rfl) (by exact fun _ _ _ h => h) (Or.inr ⟨by rfl, rfl⟩) hHeld ?_
    try simp only [Act.put, List.setIfInBounds_toArray, List.set_cons_zero, List.set_cons_succ]
    refine wpAnyH_take (i := 11) (v := ?_) (by simp only [List.getElem?_toArray, List.getElem?_cons_succ, List.getElem?_cons_zero]; rfl) (by kernel_rfl) (by kernel_rfl) (by kernel_rfl) (by exact fun _ _ _ h => h) (Or.inl ⟨by rfl, ?_⟩) hHeld ?_
    rotate_left
    · intro w hSw; (try dsimp only at hSw); go_simp; (try with_reducible rfl)
    try simp only [Act.put, List.setIfInBounds_toArray, List.set_cons_zero, List.set_cons_succ]
    refine wpAnyH_take (i := 12) (v := ?_) (by simp only [List.getElem?_toArray, List.getElem?_cons_succ, List.getElem?_cons_zero]; rfl) (by kernel_rfl) (by kernel_rfl) (by kernel_rfl) (by exact fun _ _ _ h => h) (Or.inl ⟨by rfl, ?_⟩) hHeld ?_
    rotate_left
    · intro w hSw; (try dsimp only at hSw); go_simp; (try with_reducible rfl)
    try simp only [Act.put, List.setIfInBounds_toArray, List.set_cons_zero, List.set_cons_succ]
    refine wpAnyH_take (i := 13) (v := undef) (by simp only [List.getElem?_toArray, List.getElem?_cons_succ, List.getElem?_cons_zero]; rfl) (by kernel_rfl) (by kernel_rfl) (by kernel_rfl) (by exact fun _ _ _ h => h) (Or.inr ⟨by rfl, rfl⟩) hHeld ?_
    try simp only [Act.put, List.setIfInBounds_toArray, List.set_cons_zero, List.set_cons_succ]
    refine wpAnyH_take (i := 14) (v := undef) (by simp only [List.getElem?_toArray, List.getElem?_cons_succ, List.getElem?_cons_zero]; rfl) (by kernel_rfl) (by kernel_rfl) (by kernel_rfl) (by exact fun _ _ _ h => h) (Or.inr ⟨by rfl, rfl⟩) hHeld ?_
    try simp only [Act.put, List.setIfInBounds_toArray, List.set_cons_zero, List.set_cons_succ]
    refine wpAnyH_take (i := 15) (v := undef) (by simp only [List.getElem?_toArray, List.getElem?_cons_succ, List.getElem?_cons_zero]; rfl) (by kernel_rfl) (by kernel_rfl) (by kernel_rfl) (by exact fun _ _ _ h => h) (Or.inr ⟨by rfl, rfl⟩) hHeld ?_
    try simp only [Act.put, List.setIfInBounds_toArray, List.set_cons_zero, List.set_cons_succ]
    refine wpAnyH_take (i := 16) (v := undef) (by simp only [List.getElem?_toArray, List.getElem?_cons_succ, List.getElem?_cons_zero]; rfl) (by kernel_rfl) (by kernel_rfl) (by kernel_rfl) (by exact fun _ _ _ h => h) (Or.inr ⟨by rfl, rfl⟩) hHeld ?_
    try simp only [Act.put, List.setIfInBounds_toArray, List.set_cons_zero, List.set_cons_succ]
    refine wpAnyH_take (i := 17) (v := undef) (by simp only [List.getElem?_toArray, List.getElem?_cons_succ, List.getElem?_cons_zero]; rfl) (by kernel_rfl) (by kernel_rfl) (by kernel_rfl) (by exact fun _ _ _ h => h) (Or.inr ⟨by rfl, rfl⟩) hHeld ?_
    try simp only [Act.put, List.setIfInBounds_toArray, List.set_cons_zero, List.set_cons_succ]
    refine wpAnyH_take (i := 18) (v := ?_) (by simp only [List.getElem?_toArray, List.getElem?_cons_succ, List.getElem?_cons_zero]; rfl) (by kernel_rfl) (by kernel_rfl) (by kernel_rfl) (by exact fun _ _ _ h => h) (Or.inl ⟨by rfl, ?_⟩) hHeld ?_
    rotate_left
    · intro w hSw; (try dsimp only at hSw); go_simp; (try with_reducible rfl)
    try simp only [Act.put, List.setIfInBounds_toArray, List.set_cons_zero, List.set_cons_succ]
    refine wpAnyH_take (i := 19) (v := ?_) (by simp only [List.getElem?_toArray, List.getElem?_cons_succ, List.getElem?_cons_zero]; rfl) (by kernel_rfl) (by kernel_rfl) (by kernel_rfl) (by exact fun _ _ _ h => h) (Or.inl ⟨by rfl, ?_⟩) hHeld ?_
    rotate_left
    · intro w hSw; (try dsimp only at hSw); go_simp; (try with_reducible rfl)
    try simp only [Act.put, List.setIfInBounds_toArray, List.set_cons_zero, List.set_cons_succ]
    refine wpAnyH_done (by kernel_rfl) ?_ _
    go_wp2_with fail
    go_ret
    exact ⟨rfl, ((((Keeps.refl NoS w).alloc _).alloc _).drew).trans hk2⟩
  | true =>
    cases d2 : decide (0 ≤ th) with
    | false =>
      go_enter Try.func59, Try.ntmps59
      go_wp2_with fail
      refine wp_region_held_drew (S := (fun w' => (w'.cell? ⟨w.heap.size, 0, none⟩ = some (.int .i64 ms) ∧ w'.cell? ⟨w.heap.size, 1, none⟩ = some (.int .i64 ml) ∧ w'.cell? ⟨w.heap.size, 2, none⟩ = some (.int .i64 mt) ∧ w'.cell? ⟨w.heap.size, 3, none⟩ = some (.int .i64 mc) ∧ w'.cell? ⟨w.heap.size, 4, none⟩ = some (.int .i64 md)) ∧ (w'.cell? ⟨w.heap.size + 1, 0, none⟩ = some (.int .i64 t) ∧ w'.cell? ⟨w.heap.size + 1, 1, none⟩ = some (.int .i64 l) ∧ w'.cell? ⟨w.heap.size + 1, 2, none⟩ = some (.int .i64 s) ∧ w'.cell? ⟨w.heap.size + 1, 3, none⟩ = some (.bool r) ∧ w'.cell? ⟨w.heap.size + 1, 4, none⟩ = some (.int .i64 x)))) (by kernel_rfl) (hmh.drew) (fun hHeld => ?_)
      refine wpAnyH_take (i := 0) (v := ?_) (by simp only [List.getElem?_toArray, List.getElem?_cons_succ, List.getElem?_cons_zero]; rfl) (by kernel_rfl) (by kernel_rfl) (by kernel_rfl) (by exact fun _ _ _ h => h) (Or.inl ⟨by rfl, ?_⟩) hHeld ?_
      rotate_left
      · intro w hSw; (try dsimp only at hSw); go_simp; (try with_reducible rfl)
      try simp only [Act.put, List.setIfInBounds_toArray, List.set_cons_zero, List.set_cons_succ]
      refine wpAnyH_take (i := 2) (v := ?_) (by simp only [List.getElem?_toArray, List.getElem?_cons_succ, List.getElem?_cons_zero]; rfl) (by kernel_rfl) (by kernel_rfl) (by kernel_rfl) (by exact fun _ _ _ h => h) (Or.inl ⟨by rfl, ?_⟩) hHeld ?_
      rotate_left
      · intro w hSw; (try dsimp only at hSw); go_simp; (try with_reducible rfl)
      try simp only [Act.put, List.setIfInBounds_toArray, List.set_cons_zero, List.set_cons_succ]
      refine wpAnyH_ready (rs := [1]) (by kernel_rfl) (by simp) ?_
      refine AllReadyH.cons (by simp only [List.getElem?_toArray, List.getElem?_cons_succ, List.getElem?_cons_zero]; rfl) (fun kC hkC => ?_) AllReadyH.nil
      go_simp
      refine (mlen_any a v M _ hA2).mono ?_; rintro e w1 ⟨rfl, rfl⟩
      (try go_wp2_with fail)
      refine hkC.out _ _ (hmh.drew) (fun hHeld => ?_)
      clear hkC kC
      try simp only [Act.put, List.setIfInBounds_toArray, List.set_cons_zero, List.set_cons_succ]
      refine wpAnyH_ready (rs := [3]) (by kernel_rfl) (by simp) ?_
      refine AllReadyH.cons (by simp only [List.getElem?_toArray, List.getElem?_cons_succ, List.getElem?_cons_zero]; rfl) (fun kC hkC => ?_) AllReadyH.nil
      go_simp
      refine (size_lit ms ml mt mc md sz HSZ.out _).mono ?_; rintro e w2 ⟨rfl, hk2⟩
      (try go_wp2_with fail)
      refine hkC.out _ _ (hmh.drew.no hk2) (fun hHeld => ?_)
      clear hkC kC
      try simp only [Act.put, List.setIfInBounds_toArray, List.set_cons_zero, List.set_cons_succ]
      refine wpAnyH_take (i := 4) (v := ?_) (by simp only [List.getElem?_toArray, List.getElem?_cons_succ, List.getElem?_cons_zero]; rfl) (by kernel_rfl) (by kernel_rfl) (by kernel_rfl) (by exact fun _ _ _ h => h) (Or.inl ⟨by rfl, ?_⟩) hHeld ?_
      rotate_left
      · intro w hSw; (try dsimp only at hSw); go_simp; (try with_reducible rfl)
      try simp only [Act.put, List.setIfInBounds_toArray, List.set_cons_zero, List.set_cons_succ]
      refine wpAnyH_take (i := 5) (v := ?_) (by simp only [List.getElem?_toArray, List.getElem?_cons_succ, List.getElem?_cons_zero]; rfl) (by kernel_rfl) (by kernel_rfl) (by kernel_rfl) (by exact fun _ _ _ h => h) (Or.inl ⟨by rfl, ?_⟩) hHeld ?_
      rotate_left
      · intro w hSw; (try dsimp only at hSw); go_simp; (try with_reducible rfl)
      try simp only [Act.put, List.setIfInBounds_toArray, List.set_cons_zero, List.set_cons_succ]
      refine wpAnyH_take (i := 6) (v := ?_) (by simp only [List.getElem?_toArray, List.getElem?_cons_succ, List.getElem?_cons_zero]; rfl) (by kernel_rfl) (by kernel_rfl) (by kernel_rfl) (by exact fun _ _ _ h => h) (Or.inl ⟨by rfl, ?_⟩) hHeld ?_
      rotate_left
      · intro w hSw; (try dsimp only at hSw); go_simp; (try with_reducible rfl)
      try simp only [Act.put, List.setIfInBounds_toArray, List.set_cons_zero, List.set_cons_succ]
      refine wpAnyH_take (i := 7) (v := ?_) (by simp only [List.getElem?_toArray, List.getElem?_cons_succ, List.getElem?_cons_zero]; rfl) (by kernel_rfl) (by kernel_rfl) (by kernel_rfl) (by exact fun _ _ _ h => h) (Or.inl ⟨by rfl, ?_⟩) hHeld ?_
      rotate_left
      · intro w hSw; (try dsimp only at hSw); go_simp; (try with_reducible rfl)
      try simp only [Act.put, List.setIfInBounds_toArray, List.set_cons_zero, List.set_cons_succ]
      refine wpAnyH_take (i := 8) (v := ?_) (by simp only [List.getElem?_toArray, List.getElem?_cons_succ, List.getElem?_cons_zero]; rfl) (by kernel_rfl) (by kernel_rfl) (by kernel_rfl) (by exact fun _ _ _ h => h) (Or.inl ⟨by rfl, ?_⟩) hHeld ?_
      rotate_left
      · intro w hSw; (try dsimp only at hSw); go_simp; (try with_reducible rfl)
      try simp only [Act.put, List.setIfInBounds_toArray, List.set_cons_zero, List.set_cons_succ]
      refine wpAnyH_ready (rs := [9]) (by kernel_rfl) (by simp) ?_
      refine AllReadyH.cons (by simp only [List.getElem?_toArray, List.getElem?_cons_succ, List.getElem?_cons_zero]; rfl) (fun kC hkC => ?_) AllReadyH.nil
      go_simp
      refine (threadAt_lit ms ml mt mc md t 0 th HTH.out _).mono ?_; rintro e w3 ⟨rfl, hk3⟩
      (try go_wp2_with fail)
      refine hkC.out _ _ ((hmh.drew.no hk2).no hk3) (fun hHeld => ?_)
      clear hkC kC
      try simp only [Act.put, List.setIfInBounds_toArray, List.set_cons_zero, List.set_cons_succ]
      refine wpAnyH_take (i := 10) (v := ?_) (by simp only [List.getElem?_toArray, List.getElem?_cons_succ, List.getElem?_cons_zero]; rfl) (by kernel_rfl) (by kernel_rfl) (by kernel_rfl) (by exact fun _ _ _ h => h) (Or.inl ⟨by rfl, ?_⟩) hHeld ?_
      rotate_left
      · intro w hSw; (try dsimp only at hSw); go_simp; (try with_reducible rfl)
      try simp only [Act.put, List.setIfInBounds_toArray, List.set_cons_zero, List.set_cons_succ]
      refine wpAnyH_take (i := 11) (v := ?_) (by simp only [List.getElem?_toArray, List.getElem?_cons_succ, List.getElem?_cons_zero]; rfl) (by kernel_rfl) (by kernel_rfl) (by kernel_rfl) (by exact fun _ _ _ h => h) (Or.inl ⟨by rfl, ?_⟩) hHeld ?_
      rotate_left
      · intro w hSw; (try dsimp only at hSw); go_simp; (try with_reducible rfl)
      try simp only [Act.put, List.setIfInBounds_toArray, List.set_cons_zero, List.set_cons_succ]
      refine wpAnyH_take (i := 12) (v := ?_) (by simp only [List.getElem?_toArray, List.getElem?_cons_succ, List.getElem?_cons_zero]; rfl) (by kernel_rfl) (by kernel_rfl) (by kernel_rfl) (by exact fun _ _ _ h => h) (Or.inl ⟨by rfl, ?_⟩) hHeld ?_
      rotate_left
      · intro w hSw; (try dsimp only at hSw); go_simp; (try with_reducible rfl)
      try simp only [Act.put, List.setIfInBounds_toArray, List.set_cons_zero, List.set_cons_succ]
      refine wpAnyH_take (i := 13) (v := undef) (by simp only [List.getElem?_toArray, List.getElem?_cons_succ, List.getElem?_cons_zero]; rfl) (by kernel_rfl) (by kernel_rfl) (by kernel_rfl) (by exact fun _ _ _ h => h) (Or.inr ⟨by rfl, rfl⟩) hHeld ?_
      try simp only [Act.put, List.setIfInBounds_toArray, List.set_cons_zero, List.set_cons_succ]
      refine wpAnyH_take (i := 14) (v := undef) (by simp only [List.getElem?_toArray, List.getElem?_cons_succ, List.getElem?_cons_zero]; rfl) (by kernel_rfl) (by kernel_rfl) (by kernel_rfl) (by exact fun _ _ _ h => h) (Or.inr ⟨by rfl, rfl⟩) hHeld ?_
      try simp only [Act.put, List.setIfInBounds_toArray, List.set_cons_zero, List.set_cons_succ]
      refine wpAnyH_take (i := 15) (v := undef) (by simp only [List.getElem?_toArray, List.getElem?_cons_succ, List.getElem?_cons_zero]; rfl) (by kernel_rfl) (by kernel_rfl) (by kernel_rfl) (by exact fun _ _ _ h => h) (Or.inr ⟨by rfl, rfl⟩) hHeld ?_
      try simp only [Act.put, List.setIfInBounds_toArray, List.set_cons_zero, List.set_cons_succ]
      refine wpAnyH_take (i := 16) (v := undef) (by simp only [List.getElem?_toArray, List.getElem?_cons_succ, List.getElem?_cons_zero]; rfl) (by kernel_rfl) (by kernel_rfl) (by kernel_rfl) (by exact fun _ _ _ h => h) (Or.inr ⟨by rfl, rfl⟩) hHeld ?_
      try simp only [Act.put, List.setIfInBounds_toArray, List.set_cons_zero, List.set_cons_succ]
      refine wpAnyH_take (i := 17) (v := undef) (by simp only [List.getElem?_toArray, List.getElem?_cons_succ, List.getElem?_cons_zero]; rfl) (by kernel_rfl) (by kernel_rfl) (by kernel_rfl) (by exact fun _ _ _ h => h) (Or.inr ⟨by rfl, rfl⟩) hHeld ?_
      try simp only [Act.put, List.setIfInBounds_toArray, List.set_cons_zero, List.set_cons_succ]
      refine wpAnyH_take (i := 18) (v := ?_) (by simp only [List.getElem?_toArray, List.getElem?_cons_succ, List.getElem?_cons_zero]; rfl) (by kernel_rfl) (by kernel_rfl) (by kernel_rfl) (by exact fun _ _ _ h => h) (Or.inl ⟨by rfl, ?_⟩) hHeld ?_
      rotate_left
      · intro w hSw; (try dsimp only at hSw); go_simp; (try with_reducible rfl)
      try simp only [Act.put, List.setIfInBounds_toArray, List.set_cons_zero, List.set_cons_succ]
      refine wpAnyH_take (i := 19) (v := ?_) (by simp only [List.getElem?_toArray, List.getElem?_cons_succ, List.getElem?_cons_zero]; rfl) (by kernel_rfl) (by kernel_rfl) (by kernel_rfl) (by exact fun _ _ _ h => h) (Or.inl ⟨by rfl, ?_⟩) hHeld ?_
      rotate_left
      · intro w hSw; (try dsimp only at hSw); go_simp; (try with_reducible rfl)
      try simp only [Act.put, List.setIfInBounds_toArray, List.set_cons_zero, List.set_cons_succ]
      refine wpAnyH_done (by kernel_rfl) ?_ _
      go_wp2_with fail
      go_ret
      exact ⟨rfl, (((((Keeps.refl NoS w).alloc _).alloc _).drew).trans hk2).trans hk3⟩
    | true =>
      cases d3 : decide (0 ≤ lk)
      all_goals
        go_enter Try.func59, Try.ntmps59
        go_wp2_with fail
        go_region_held3 (fun w' => (w'.cell? ⟨w.heap.size, 0, none⟩ = some (.int .i64 ms) ∧ w'.cell? ⟨w.heap.size, 1, none⟩ = some (.int .i64 ml) ∧ w'.cell? ⟨w.heap.size, 2, none⟩ = some (.int .i64 mt) ∧ w'.cell? ⟨w.heap.size, 3, none⟩ = some (.int .i64 mc) ∧ w'.cell? ⟨w.heap.size, 4, none⟩ = some (.int .i64 md)) ∧ (w'.cell? ⟨w.heap.size + 1, 0, none⟩ = some (.int .i64 t) ∧ w'.cell? ⟨w.heap.size + 1, 1, none⟩ = some (.int .i64 l) ∧ w'.cell? ⟨w.heap.size + 1, 2, none⟩ = some (.int .i64 s) ∧ w'.cell? ⟨w.heap.size + 1, 3, none⟩ = some (.bool r) ∧ w'.cell? ⟨w.heap.size + 1, 4, none⟩ = some (.int .i64 x))) (first | exact hmh | exact hm2 | exact hm3 | exact hm4) (first
          | (go_at_call 66; refine (mlen_any a v M _ hA2).mono ?_; rintro e w1 ⟨rfl, rfl⟩)
          | (go_at_call 56; refine (size_lit ms ml mt mc md sz HSZ.out _).mono ?_; rintro e w2 ⟨rfl, hk2⟩; have hm2 := hmh.drew.no hk2)
          | (go_at_call 88; refine (threadAt_lit ms ml mt mc md t 0 th HTH.out _).mono ?_; rintro e w3 ⟨rfl, hk3⟩; have hm3 := hm2.no hk3)
          | (go_at_call 20; refine (lock_lit ms ml mt mc md l 0 lk HLK.out _).mono ?_; rintro e w4 ⟨rfl, hk4⟩; have hm4 := hm3.no hk4))
        go_wp2_with fail
        go_ret
        exact ⟨rfl, ((((((Keeps.refl NoS w).alloc _).alloc _).drew).trans hk2).trans hk3).trans hk4⟩
theorem fits_nil (ms ml mt mc md t l s : Int) (r : Bool) (x : Int) (hs : sizeP ⟨ms, ml, mt, mc, md⟩ = 48) (w : World) : Calls Try.prog 59 #[.agg #[.int .i64 ms, .int .i64 ml, .int .i64 mt, .int .i64 mc, .int .i64 md], .pointer none, .agg #[.int .i64 t, .int .i64 l, .int .i64 s, .bool r, .int .i64 x]] w fun e w' => e = .returned (.bool false) ∧ Keeps NoS w w' := by
  obtain ⟨sz, hsz⟩ : ∃ sz, sizeP ⟨ms, ml, mt, mc, md⟩ = sz := ⟨_, rfl⟩
  obtain ⟨z0, hz0⟩ : ∃ z0 : Int, z0 = 0 := ⟨_, rfl⟩
  rw [hsz] at hs
  have HSZ := Lib.hid hsz
  have d1 : decide (sz ≤ z0) = false := decide_eq_false (by omega)
  have hlen : ∀ W, Calls Try.prog 66 #[.pointer none] W fun e w' => e = .returned (.int .i64 z0) ∧ W = w' := fun W => by subst hz0; exact mlen_nil W
  have HLEN := Lib.hid hlen
  have hmh := mh_new w ms ml mt mc md t l s r x 25 32
  clear hz0 hlen hsz hs
  go_enter Try.func59, Try.ntmps59
  go_wp2_with fail
  refine wp_region_held_drew (S := (fun w' => (w'.cell? ⟨w.heap.size, 0, none⟩ = some (.int .i64 ms) ∧ w'.cell? ⟨w.heap.size, 1, none⟩ = some (.int .i64 ml) ∧ w'.cell? ⟨w.heap.size, 2, none⟩ = some (.int .i64 mt) ∧ w'.cell? ⟨w.heap.size, 3, none⟩ = some (.int .i64 mc) ∧ w'.cell? ⟨w.heap.size, 4, none⟩ = some (.int .i64 md)) ∧ (w'.cell? ⟨w.heap.size + 1, 0, none⟩ = some (.int .i64 t) ∧ w'.cell? ⟨w.heap.size + 1, 1, none⟩ = some (.int .i64 l) ∧ w'.cell? ⟨w.heap.size + 1, 2, none⟩ = some (.int .i64 s) ∧ w'.cell? ⟨w.heap.size + 1, 3, none⟩ = some (.bool r) ∧ w'.cell? ⟨w.heap.size + 1, 4, none⟩ = some (.int .i64 x)))) (by kernel_rfl) (hmh.drew) (fun hHeld => ?_)
  refine wpAnyH_take (i := 0) (v := ?_) (by simp only [List.getElem?_toArray, List.getElem?_cons_succ, List.getElem?_cons_zero]; rfl) (by kernel_rfl) (by kernel_rfl) (by kernel_rfl) (by exact fun _ _ _ h => h) (Or.inl ⟨by rfl, ?_⟩) hHeld ?_
  rotate_left
  · intro w hSw; (try dsimp only at hSw); go_simp; (try with_reducible rfl)
  try simp only [Act.put, List.setIfInBounds_toArray, List.set_cons_zero, List.set_cons_succ]
  refine wpAnyH_take (i := 2) (v := ?_) (by simp only [List.getElem?_toArray, List.getElem?_cons_succ, List.getElem?_cons_zero]; rfl) (by kernel_rfl) (by kernel_rfl) (by kernel_rfl) (by exact fun _ _ _ h => h) (Or.inl ⟨by rfl, ?_⟩) hHeld ?_
  rotate_left
  · intro w hSw; (try dsimp only at hSw); go_simp; (try with_reducible rfl)
  try simp only [Act.put, List.setIfInBounds_toArray, List.set_cons_zero, List.set_cons_succ]
  refine wpAnyH_ready (rs := [1]) (by kernel_rfl) (by simp) ?_
  refine AllReadyH.cons (by simp only [List.getElem?_toArray, List.getElem?_cons_succ, List.getElem?_cons_zero]; rfl) (fun kC hkC => ?_) AllReadyH.nil
  go_simp
  refine (HLEN.out _).mono ?_; rintro e w1 ⟨rfl, rfl⟩
  (try go_wp2_with fail)
  refine hkC.out _ _ (hmh.drew) (fun hHeld => ?_)
  clear hkC kC
  try simp only [Act.put, List.setIfInBounds_toArray, List.set_cons_zero, List.set_cons_succ]
  refine wpAnyH_ready (rs := [3]) (by kernel_rfl) (by simp) ?_
  refine AllReadyH.cons (by simp only [List.getElem?_toArray, List.getElem?_cons_succ, List.getElem?_cons_zero]; rfl) (fun kC hkC => ?_) AllReadyH.nil
  go_simp
  refine (size_lit ms ml mt mc md sz HSZ.out _).mono ?_; rintro e w2 ⟨rfl, hk2⟩
  (try go_wp2_with fail)
  refine hkC.out _ _ (hmh.drew.no hk2) (fun hHeld => ?_)
  clear hkC kC
  try simp only [Act.put, List.setIfInBounds_toArray, List.set_cons_zero, List.set_cons_succ]
  refine wpAnyH_take (i := 4) (v := ?_) (by simp only [List.getElem?_toArray, List.getElem?_cons_succ, List.getElem?_cons_zero]; rfl) (by kernel_rfl) (by kernel_rfl) (by kernel_rfl) (by exact fun _ _ _ h => h) (Or.inl ⟨by rfl, ?_⟩) hHeld ?_
  rotate_left
  · intro w hSw; (try dsimp only at hSw); go_simp; (try with_reducible rfl)
  try simp only [Act.put, List.setIfInBounds_toArray, List.set_cons_zero, List.set_cons_succ]
  refine wpAnyH_take (i := 5) (v := ?_) (by simp only [List.getElem?_toArray, List.getElem?_cons_succ, List.getElem?_cons_zero]; rfl) (by kernel_rfl) (by kernel_rfl) (by kernel_rfl) (by exact fun _ _ _ h => h) (Or.inl ⟨by rfl, ?_⟩) hHeld ?_
  rotate_left
  · intro w hSw; (try dsimp only at hSw); go_simp; (try with_reducible rfl)
  try simp only [Act.put, List.setIfInBounds_toArray, List.set_cons_zero, List.set_cons_succ]
  refine wpAnyH_take (i := 6) (v := undef) (by simp only [List.getElem?_toArray, List.getElem?_cons_succ, List.getElem?_cons_zero]; rfl) (by kernel_rfl) (by kernel_rfl) (by kernel_rfl) (by exact fun _ _ _ h => h) (Or.inr ⟨by rfl, rfl⟩) hHeld ?_
  try simp only [Act.put, List.setIfInBounds_toArray, List.set_cons_zero, List.set_cons_succ]
  refine wpAnyH_take (i := 7) (v := undef) (by simp only [List.getElem?_toArray, List.getElem?_cons_succ, List.getElem?_cons_zero]; rfl) (by kernel_rfl) (by kernel_rfl) (by kernel_rfl) (by exact fun _ _ _ h => h) (Or.inr ⟨by rfl, rfl⟩) hHeld ?_
  try simp only [Act.put, List.setIfInBounds_toArray, List.set_cons_zero, List.set_cons_succ]
  refine wpAnyH_take (i := 8) (v := undef) (by simp only [List.getElem?_toArray, List.getElem?_cons_succ, List.getElem?_cons_zero]; rfl) (by kernel_rfl) (by kernel_rfl) (by kernel_rfl) (by exact fun _ _ _ h => h) (Or.inr ⟨by rfl, rfl⟩) hHeld ?_
  try simp only [Act.put, List.setIfInBounds_toArray, List.set_cons_zero, List.set_cons_succ]
  refine wpAnyH_take (i := 9) (v := undef) (by simp only [List.getElem?_toArray, List.getElem?_cons_succ, List.getElem?_cons_zero]; rfl) (by kernel_rfl) (by kernel_rfl) (by kernel_rfl) (by exact fun _ _ _ h => h) (Or.inr ⟨by rfl, rfl⟩) hHeld ?_
  try simp only [Act.put, List.setIfInBounds_toArray, List.set_cons_zero, List.set_cons_succ]
  refine wpAnyH_take (i := 10) (v := undef) (by simp only [List.getElem?_toArray, List.getElem?_cons_succ, List.getElem?_cons_zero]; rfl) (by kernel_rfl) (by kernel_rfl) (by kernel_rfl) (by exact fun _ _ _ h => h) (Or.inr ⟨by rfl, rfl⟩) hHeld ?_
  try simp only [Act.put, List.setIfInBounds_toArray, List.set_cons_zero, List.set_cons_succ]
  refine wpAnyH_take (i := 11) (v := ?_) (by simp only [List.getElem?_toArray, List.getElem?_cons_succ, List.getElem?_cons_zero]; rfl) (by kernel_rfl) (by kernel_rfl) (by kernel_rfl) (by exact fun _ _ _ h => h) (Or.inl ⟨by rfl, ?_⟩) hHeld ?_
  rotate_left
  · intro w hSw; (try dsimp only at hSw); go_simp; (try with_reducible rfl)
  try simp only [Act.put, List.setIfInBounds_toArray, List.set_cons_zero, List.set_cons_succ]
  refine wpAnyH_take (i := 12) (v := ?_) (by simp only [List.getElem?_toArray, List.getElem?_cons_succ, List.getElem?_cons_zero]; rfl) (by kernel_rfl) (by kernel_rfl) (by kernel_rfl) (by exact fun _ _ _ h => h) (Or.inl ⟨by rfl, ?_⟩) hHeld ?_
  rotate_left
  · intro w hSw; (try dsimp only at hSw); go_simp; (try with_reducible rfl)
  try simp only [Act.put, List.setIfInBounds_toArray, List.set_cons_zero, List.set_cons_succ]
  refine wpAnyH_take (i := 13) (v := undef) (by simp only [List.getElem?_toArray, List.getElem?_cons_succ, List.getElem?_cons_zero]; rfl) (by kernel_rfl) (by kernel_rfl) (by kernel_rfl) (by exact fun _ _ _ h => h) (Or.inr ⟨by rfl, rfl⟩) hHeld ?_
  try simp only [Act.put, List.setIfInBounds_toArray, List.set_cons_zero, List.set_cons_succ]
  refine wpAnyH_take (i := 14) (v := undef) (by simp only [List.getElem?_toArray, List.getElem?_cons_succ, List.getElem?_cons_zero]; rfl) (by kernel_rfl) (by kernel_rfl) (by kernel_rfl) (by exact fun _ _ _ h => h) (Or.inr ⟨by rfl, rfl⟩) hHeld ?_
  try simp only [Act.put, List.setIfInBounds_toArray, List.set_cons_zero, List.set_cons_succ]
  refine wpAnyH_take (i := 15) (v := undef) (by simp only [List.getElem?_toArray, List.getElem?_cons_succ, List.getElem?_cons_zero]; rfl) (by kernel_rfl) (by kernel_rfl) (by kernel_rfl) (by exact fun _ _ _ h => h) (Or.inr ⟨by rfl, rfl⟩) hHeld ?_
  try simp only [Act.put, List.setIfInBounds_toArray, List.set_cons_zero, List.set_cons_succ]
  refine wpAnyH_take (i := 16) (v := undef) (by simp only [List.getElem?_toArray, List.getElem?_cons_succ, List.getElem?_cons_zero]; rfl) (by kernel_rfl) (by kernel_rfl) (by kernel_rfl) (by exact fun _ _ _ h => h) (Or.inr ⟨by rfl, rfl⟩) hHeld ?_
  try simp only [Act.put, List.setIfInBounds_toArray, List.set_cons_zero, List.set_cons_succ]
  refine wpAnyH_take (i := 17) (v := undef) (by simp only [List.getElem?_toArray, List.getElem?_cons_succ, List.getElem?_cons_zero]; rfl) (by kernel_rfl) (by kernel_rfl) (by kernel_rfl) (by exact fun _ _ _ h => h) (Or.inr ⟨by rfl, rfl⟩) hHeld ?_
  try simp only [Act.put, List.setIfInBounds_toArray, List.set_cons_zero, List.set_cons_succ]
  refine wpAnyH_take (i := 18) (v := ?_) (by simp only [List.getElem?_toArray, List.getElem?_cons_succ, List.getElem?_cons_zero]; rfl) (by kernel_rfl) (by kernel_rfl) (by kernel_rfl) (by exact fun _ _ _ h => h) (Or.inl ⟨by rfl, ?_⟩) hHeld ?_
  rotate_left
  · intro w hSw; (try dsimp only at hSw); go_simp; (try with_reducible rfl)
  try simp only [Act.put, List.setIfInBounds_toArray, List.set_cons_zero, List.set_cons_succ]
  refine wpAnyH_take (i := 19) (v := ?_) (by simp only [List.getElem?_toArray, List.getElem?_cons_succ, List.getElem?_cons_zero]; rfl) (by kernel_rfl) (by kernel_rfl) (by kernel_rfl) (by exact fun _ _ _ h => h) (Or.inl ⟨by rfl, ?_⟩) hHeld ?_
  rotate_left
  · intro w hSw; (try dsimp only at hSw); go_simp; (try with_reducible rfl)
  try simp only [Act.put, List.setIfInBounds_toArray, List.set_cons_zero, List.set_cons_succ]
  refine wpAnyH_done (by kernel_rfl) ?_ _
  go_wp2_with fail
  go_ret
  exact ⟨rfl, ((((Keeps.refl NoS w).alloc _).alloc _).drew).trans hk2⟩
/-- three boxes -/
theorem start3 (w : World) (ms ml mt mc md t l s : Int) (r : Bool) (x : Int) (T U : TypeId) : ∃ W, W = (((w.alloc (.cells #[.int .i64 ms, .int .i64 ml, .int .i64 mt, .int .i64 mc, .int .i64 md] T)).alloc (.cells #[.int .i64 t, .int .i64 l, .int .i64 s, .bool r, .int .i64 x] U)).alloc (.cells #[.int .i64 0, .int .i64 0, .int .i64 0, .bool false, .int .i64 0] U)) ∧
    MapAt W w.heap.size ms ml mt mc md ∧ HandAt W U (w.heap.size + 1) t l s r x ∧ HandAt W U (w.heap.size + 2) 0 0 0 false 0 ∧ Keeps NoS w W := by
  refine ⟨_, rfl, ?_, ?_, ?_, (((Keeps.refl NoS w).alloc _).alloc _).alloc _⟩
  · have h := mapAt_new w ms ml mt mc md T
    exact (h.keep ((Keeps.refl NoS _).alloc _) (fun f => f)).keep ((Keeps.refl NoS _).alloc _) (fun f => f)
  · have h := handAt_new (w.alloc (.cells #[.int .i64 ms, .int .i64 ml, .int .i64 mt, .int .i64 mc, .int .i64 md] T)) U t l s r x
    have h' := h.keep ((Keeps.refl NoS _).alloc (.cells #[.int .i64 0, .int .i64 0, .int .i64 0, .bool false, .int .i64 0] U)) (fun f => f)
    simpa using h'
  · have h := handAt_new ((w.alloc (.cells #[.int .i64 ms, .int .i64 ml, .int .i64 mt, .int .i64 mc, .int .i64 md] T)).alloc (.cells #[.int .i64 t, .int .i64 l, .int .i64 s, .bool r, .int .i64 x] U)) U 0 0 0 false 0
    simpa using h
def tkTake (m : MapS) (M : MemS) (h : HandS) : MemS × HandS :=
  if fitB m M.L.length h.t h.l then
    if h.s = 0 then (M.addI (lockP m h.l 1) 1, { h with x := M.atP (lockP m h.l 1), s := 1 })
    else if h.s = 1 then (M.loadI (lockP m h.l 2), if M.atP (lockP m h.l 2) = h.x then { h with s := 9 } else h)
    else (M, h)
  else (M, h)
theorem fit_lock {m : MapS} {M : MemS} {t l p : Int} (h : fitB m M.L.length t l = true) (h0 : 0 ≤ p) (h6 : p < 6) : M.inR (lockP m l p) = true := by
  simp only [fitB, Bool.and_eq_true, decide_eq_true_eq] at h
  obtain ⟨⟨h1, h2⟩, h3⟩ := h
  unfold lockP at h3 ⊢
  cases hm : mayB m with
  | false => rw [hm] at h3; simp at h3
  | true =>
    have hM := may_of hm
    have hb := starts_bd hM
    by_cases hl : 0 ≤ l ∧ l < m.l
    · rw [inB_of hl.1 hl.2, inB_of h0 h6]
      simp only [MemS.inR, Bool.and_self, if_true, Bool.and_eq_true, decide_eq_true_eq]
      have e2 : p2 m = p1 m + 6 * m.l := rfl
      have hs : sizeP m = p7 m := by simp [sizeP, hm]
      omega
    · rw [inB_not hl] at h3; simp at h3
theorem codeP_in {M : MemS} {i : Int} (h : M.inR i = true) : M.codeP i = 0 := by simp [MemS.codeP, h]
/-- the three boxes of a step: the map, the hand, what is handed back -/
def Bx (B : Nat) (ms ml mt mc md t l s : Int) (r : Bool) (x : Int) (w1 : World) : Prop := MapAt w1 B ms ml mt mc md ∧ HandAt w1 32 (B + 1) t l s r x ∧ HandAt w1 32 (B + 2) 0 0 0 false 0
theorem Bx.no {B : Nat} {ms ml mt mc md t l s : Int} {r : Bool} {x : Int} {w w' : World} (h : Bx B ms ml mt mc md t l s r x w) (k : Keeps NoS w w') : Bx B ms ml mt mc md t l s r x w' :=
  ⟨h.1.keep k (fun f => f), h.2.1.keep k (fun f => f), h.2.2.keep k (fun f => f)⟩
theorem Bx.own {B a : Nat} {v : Value} {ms ml mt mc md t l s : Int} {r : Bool} {x : Int} {w w' : World} (h : Bx B ms ml mt mc md t l s r x w) (k : Keeps (own2m a v) w w') (ha : a < B) (hv : ∀ g, v.ownBlock = some g → g < B) : Bx B ms ml mt mc md t l s r x w' :=
  ⟨h.1.keep k (not_own (by omega) (fun e => by have := hv _ e; omega)), h.2.1.keep k (not_own (by omega) (fun e => by have := hv _ e; omega)), h.2.2.keep k (not_own (by omega) (fun e => by have := hv _ e; omega))⟩
theorem Bx.facts {B : Nat} {ms ml mt mc md t l s : Int} {r : Bool} {x : Int} {w : World} (h : Bx B ms ml mt mc md t l s r x w) :
    (w.cell? ⟨B, 0, none⟩ = some (.int .i64 ms) ∧ w.cell? ⟨B, 1, none⟩ = some (.int .i64 ml) ∧ w.cell? ⟨B, 2, none⟩ = some (.int .i64 mt) ∧ w.cell? ⟨B, 3, none⟩ = some (.int .i64 mc) ∧ w.cell? ⟨B, 4, none⟩ = some (.int .i64 md)) ∧
    (w.cell? ⟨B + 1, 0, none⟩ = some (.int .i64 t) ∧ w.cell? ⟨B + 1, 1, none⟩ = some (.int .i64 l) ∧ w.cell? ⟨B + 1, 2, none⟩ = some (.int .i64 s) ∧ w.cell? ⟨B + 1, 3, none⟩ = some (.bool r) ∧ w.cell? ⟨B + 1, 4, none⟩ = some (.int .i64 x)) ∧
    (w.cell? ⟨B + 2, 0, none⟩ = some (.int .i64 0) ∧ w.cell? ⟨B + 2, 1, none⟩ = some (.int .i64 0) ∧ w.cell? ⟨B + 2, 2, none⟩ = some (.int .i64 0) ∧ w.cell? ⟨B + 2, 3, none⟩ = some (.bool false) ∧ w.cell? ⟨B + 2, 4, none⟩ = some (.int .i64 0)) ∧
    (w.frozen? ⟨B + 1, 0, none⟩ = false ∧ w.frozen? ⟨B + 1, 1, none⟩ = false ∧ w.frozen? ⟨B + 1, 2, none⟩ = false ∧ w.frozen? ⟨B + 1, 3, none⟩ = false ∧ w.frozen? ⟨B + 1, 4, none⟩ = false) ∧
    (w.frozen? ⟨B + 2, 0, none⟩ = false ∧ w.frozen? ⟨B + 2, 1, none⟩ = false ∧ w.frozen? ⟨B + 2, 2, none⟩ = false ∧ w.frozen? ⟨B + 2, 3, none⟩ = false ∧ w.frozen? ⟨B + 2, 4, none⟩ = false) ∧ B + 1 < w.heap.size ∧ B + 2 < w.heap.size := by
  obtain ⟨hm, hh, hr⟩ := h
  obtain ⟨c0, c1, c2, c3, c4, f0, f1, f2, f3, f4, fz⟩ := hh.cells
  obtain ⟨r0, r1, r2, r3, r4, g0, g1, g2, g3, g4, gz⟩ := hr.cells
  exact ⟨hm, ⟨c0, c1, c2, c3, c4⟩, ⟨r0, r1, r2, r3, r4⟩, ⟨f0, f1, f2, f3, f4⟩, ⟨g0, g1, g2, g3, g4⟩, fz, gz⟩
theorem bx_new (w : World) (ms ml mt mc md t l s : Int) (r : Bool) (x : Int) (T : TypeId) : Bx w.heap.size ms ml mt mc md t l s r x (((w.alloc (.cells #[.int .i64 ms, .int .i64 ml, .int .i64 mt, .int .i64 mc, .int .i64 md] T)).alloc (.cells #[.int .i64 t, .int .i64 l, .int .i64 s, .bool r, .int .i64 x] 32)).alloc (.cells #[.int .i64 0, .int .i64 0, .int .i64 0, .bool false, .int .i64 0] 32)) := by
  obtain ⟨W, hW, h1, h2, h3, _⟩ := start3 w ms ml mt mc md t l s r x T 32
  rw [← hW]; exact ⟨h1, h2, h3⟩
set_option maxHeartbeats 20000000 in
set_option maxRecDepth 100000 in
theorem take_any (ms ml mt mc md t l s : Int) (r : Bool) (x : Int) (a : Nat) (v : Value) (M : MemS) (w : World) (hA : MemAt w a v M) : Calls Try.prog 18 #[.agg #[.int .i64 ms, .int .i64 ml, .int .i64 mt, .int .i64 mc, .int .i64 md], .pointer (some ⟨a, 0, none⟩), .agg #[.int .i64 t, .int .i64 l, .int .i64 s, .bool r, .int .i64 x]] w fun e w' => e = .returned (handV (tkTake ⟨ms, ml, mt, mc, md⟩ M ⟨t, l, s, r, x⟩).2) ∧ MemAt w' a v (tkTake ⟨ms, ml, mt, mc, md⟩ M ⟨t, l, s, r, x⟩).1 ∧ Keeps (own2m a v) w w' := by
  have hbx := bx_new w ms ml mt mc md t l s r x 25
  have hk : Keeps NoS w (((w.alloc (.cells #[.int .i64 ms, .int .i64 ml, .int .i64 mt, .int .i64 mc, .int .i64 md] 25)).alloc (.cells #[.int .i64 t, .int .i64 l, .int .i64 s, .bool r, .int .i64 x] 32)).alloc (.cells #[.int .i64 0, .int .i64 0, .int .i64 0, .bool false, .int .i64 0] 32)) := (((Keeps.refl NoS w).alloc _).alloc _).alloc _
  have ha := blk_lt hA.hd
  have hv : ∀ g, v.ownBlock = some g → g < w.heap.size := fun g hg => hA.own_lt hg
  have hA2 := hA.keep hk (fun f => f) (fun _ _ f => f)
  obtain ⟨B, hB⟩ : ∃ B, w.heap.size = B := ⟨_, rfl⟩
  rw [hB] at hbx hv ha
  have HB := Lib.hid hB; have HA2 := Lib.hid hA2; have HK := Lib.hid hk; have HV := Lib.hid hv; have HBX := Lib.hid hbx
  cases hf : fitB ⟨ms, ml, mt, mc, md⟩ M.L.length t l with
  | false =>
    have e : tkTake ⟨ms, ml, mt, mc, md⟩ M ⟨t, l, s, r, x⟩ = (M, ⟨t, l, s, r, x⟩) := by simp [tkTake, hf]
    rw [e]
    have HF := Lib.hid hf
    clear hf e hbx hk hv hA2 hB hA
    unfold handV
    dsimp only
    go_enter Try.func18, Try.ntmps18
    go_wp2_with fail
    refine (fits_any ms ml mt mc md t l s r x a v M _ HA2.out).mono ?_
    rw [HF.out]
    rintro e w1 ⟨rfl, hk1⟩
    obtain ⟨⟨m0, m1, m2, m3, m4⟩, ⟨c0, c1, c2, c3, c4⟩, ⟨r0, r1, r2, r3, r4⟩, ⟨f0, f1, f2, f3, f4⟩, ⟨g0, g1, g2, g3, g4⟩, z1, z2⟩ := (HBX.out.no hk1).facts
    have hm1 := HA2.out.keep hk1 (fun f => f) (fun _ _ f => f)
    rw [HB.out]
    go_wp2_with fail
    refine bodyPost_ret (v := .agg #[.int .i64 t, .int .i64 l, .int .i64 s, .bool r, .int .i64 x]) (by simp [results, Try.results18, go_sem, *]) rfl ⟨rfl, ?_, ?_⟩
    · repeat (first | (with_reducible exact hm1) | refine MemT.set (B := B) ?_ ha HV.out _ (by show B ≤ _; dsimp only; omega) _)
    · repeat (first | (with_reducible exact ((HK.out.trans hk1).no)) | refine kset HB.out ?_ _ (by show B ≤ _; dsimp only; omega) _)
  | true =>
    have HF := Lib.hid hf
    by_cases hs0 : s = 0
    · subst hs0
      obtain ⟨lk, hlk⟩ : ∃ lk, lockP ⟨ms, ml, mt, mc, md⟩ l 1 = lk := ⟨_, rfl⟩
      have hin := fit_lock (p := 1) hf (by decide) (by decide)
      rw [hlk] at hin
      have e : tkTake ⟨ms, ml, mt, mc, md⟩ M ⟨t, l, 0, r, x⟩ = (M.addI lk 1, ⟨t, l, 1, r, M.atP lk⟩) := by simp [tkTake, hf, hlk]
      rw [e]
      have HL := Lib.hid hlk; have HC := Lib.hid (codeP_in hin)
      clear hf e hbx hk hv hA2 hB hA hlk hin
      unfold handV
      dsimp only
      go_enter Try.func18, Try.ntmps18
      go_wp2_with fail
      refine (fits_any ms ml mt mc md t l 0 r x a v M _ HA2.out).mono ?_
      rw [HF.out]
      rintro e w1 ⟨rfl, hk1⟩
      have hb1 := HBX.out.no hk1
      obtain ⟨⟨m0, m1, m2, m3, m4⟩, ⟨c0, c1, c2, c3, c4⟩, ⟨r0, r1, r2, r3, r4⟩, ⟨f0, f1, f2, f3, f4⟩, ⟨g0, g1, g2, g3, g4⟩, z1, z2⟩ := hb1.facts
      have hm1 := HA2.out.keep hk1 (fun f => f) (fun _ _ f => f)
      have HB1 := Lib.hid hb1
      rw [HB.out]
      clear hb1
      go_wp2_with (first
        | (go_at_call 20; refine (lock_lit ms ml mt mc md l 1 lk HL.out _).mono ?_; rintro e w2 ⟨rfl, hk2⟩)
        | (go_at_call 60; refine (add_tot a v M lk 1 _ (hm1.keep hk2 (fun f => f) (fun _ _ f => f))).mono ?_; rw [HC.out]; rintro e w3 ⟨rfl, hm3, hk3⟩; have hb3 := (HB1.out.no hk2).own hk3 ha HV.out; obtain ⟨⟨M0, M1, M2, M3, M4⟩, ⟨C0, C1, C2, C3, C4⟩, ⟨R0, R1, R2, R3, R4⟩, ⟨F0, F1, F2, F3, F4⟩, ⟨G0, G1, G2, G3, G4⟩, Z1, Z2⟩ := hb3.facts; clear hb3))
      refine bodyPost_ret (v := .agg #[.int .i64 t, .int .i64 l, .int .i64 1, .bool r, .int .i64 (M.atP lk)]) (by simp [results, Try.results18, go_sem, *]) rfl ⟨rfl, ?_, ?_⟩
      · repeat (first | (with_reducible exact hm3) | refine MemT.set (B := B) ?_ ha HV.out _ (by show B ≤ _; dsimp only; omega) _)
      · repeat (first | (with_reducible exact (((HK.out.trans hk1).trans hk2).no.trans hk3)) | refine kset HB.out ?_ _ (by show B ≤ _; dsimp only; omega) _)
    · have t0 : (s == 0) = false := beq_eq_false_iff_ne.2 hs0
      by_cases hs1 : s = 1
      · subst hs1
        obtain ⟨lk, hlk⟩ : ∃ lk, lockP ⟨ms, ml, mt, mc, md⟩ l 2 = lk := ⟨_, rfl⟩
        have hin := fit_lock (p := 2) hf (by decide) (by decide)
        rw [hlk] at hin
        have HL := Lib.hid hlk; have HC := Lib.hid (codeP_in hin)
        obtain ⟨y, hy⟩ : ∃ y, M.atP lk = y := ⟨_, rfl⟩
        have HY := Lib.hid hy
        by_cases hyx : y = x
        · have e : tkTake ⟨ms, ml, mt, mc, md⟩ M ⟨t, l, 1, r, x⟩ = (M.loadI lk, ⟨t, l, 9, r, x⟩) := by simp [tkTake, hf, hlk, hy, hyx]
          rw [e]
          subst hyx
          clear hf e hbx hk hv hA2 hB hA hlk hin hs0 t0 hy
          unfold handV
          dsimp only
          go_enter Try.func18, Try.ntmps18
          go_wp2_with fail
          refine (fits_any ms ml mt mc md t l 1 r y a v M _ HA2.out).mono ?_
          rw [HF.out]
          rintro e w1 ⟨rfl, hk1⟩
          have hb1 := HBX.out.no hk1
          obtain ⟨⟨m0, m1, m2, m3, m4⟩, ⟨c0, c1, c2, c3, c4⟩, ⟨r0, r1, r2, r3, r4⟩, ⟨f0, f1, f2, f3, f4⟩, ⟨g0, g1, g2, g3, g4⟩, z1, z2⟩ := hb1.facts
          have hm1 := HA2.out.keep hk1 (fun f => f) (fun _ _ f => f)
          have HB1 := Lib.hid hb1
          rw [HB.out]
          clear hb1
          go_wp2_with (first
            | (go_at_call 20; refine (lock_lit ms ml mt mc md l 2 lk HL.out _).mono ?_; rintro e w2 ⟨rfl, hk2⟩)
            | (go_at_call 61; refine (load_tot a v M lk _ (hm1.keep hk2 (fun f => f) (fun _ _ f => f))).mono ?_; rw [HC.out, HY.out]; rintro e w3 ⟨rfl, hm3, hk3⟩; have hb3 := (HB1.out.no hk2).own hk3 ha HV.out; obtain ⟨⟨M0, M1, M2, M3, M4⟩, ⟨C0, C1, C2, C3, C4⟩, ⟨R0, R1, R2, R3, R4⟩, ⟨F0, F1, F2, F3, F4⟩, ⟨G0, G1, G2, G3, G4⟩, Z1, Z2⟩ := hb3.facts; clear hb3))
          refine bodyPost_ret (v := .agg #[.int .i64 t, .int .i64 l, .int .i64 9, .bool r, .int .i64 y]) (by simp [results, Try.results18, go_sem, *]) rfl ⟨rfl, ?_, ?_⟩
          · repeat (first | (with_reducible exact hm3) | refine MemT.set (B := B) ?_ ha HV.out _ (by show B ≤ _; dsimp only; omega) _)
          · repeat (first | (with_reducible exact (((HK.out.trans hk1).trans hk2).no.trans hk3)) | refine kset HB.out ?_ _ (by show B ≤ _; dsimp only; omega) _)
        · have e : tkTake ⟨ms, ml, mt, mc, md⟩ M ⟨t, l, 1, r, x⟩ = (M.loadI lk, ⟨t, l, 1, r, x⟩) := by simp [tkTake, hf, hlk, hy, hyx]
          rw [e]
          have hyb : (y == x) = false := beq_eq_false_iff_ne.2 hyx
          clear hf e hbx hk hv hA2 hB hA hlk hin hs0 t0 hy hyx
          unfold handV
          dsimp only
          go_enter Try.func18, Try.ntmps18
          go_wp2_with fail
          refine (fits_any ms ml mt mc md t l 1 r x a v M _ HA2.out).mono ?_
          rw [HF.out]
          rintro e w1 ⟨rfl, hk1⟩
          have hb1 := HBX.out.no hk1
          obtain ⟨⟨m0, m1, m2, m3, m4⟩, ⟨c0, c1, c2, c3, c4⟩, ⟨r0, r1, r2, r3, r4⟩, ⟨f0, f1, f2, f3, f4⟩, ⟨g0, g1, g2, g3, g4⟩, z1, z2⟩ := hb1.facts
          have hm1 := HA2.out.keep hk1 (fun f => f) (fun _ _ f => f)
          have HB1 := Lib.hid hb1
          rw [HB.out]
          clear hb1
          go_wp2_with (first
            | (go_at_call 20; refine (lock_lit ms ml mt mc md l 2 lk HL.out _).mono ?_; rintro e w2 ⟨rfl, hk2⟩)
            | (go_at_call 61; refine (load_tot a v M lk _ (hm1.keep hk2 (fun f => f) (fun _ _ f => f))).mono ?_; rw [HC.out, HY.out]; rintro e w3 ⟨rfl, hm3, hk3⟩; have hb3 := (HB1.out.no hk2).own hk3 ha HV.out; obtain ⟨⟨M0, M1, M2, M3, M4⟩, ⟨C0, C1, C2, C3, C4⟩, ⟨R0, R1, R2, R3, R4⟩, ⟨F0, F1, F2, F3, F4⟩, ⟨G0, G1, G2, G3, G4⟩, Z1, Z2⟩ := hb3.facts; clear hb3))
          refine bodyPost_ret (v := .agg #[.int .i64 t, .int .i64 l, .int .i64 1, .bool r, .int .i64 x]) (by simp [results, Try.results18, go_sem, *]) rfl ⟨rfl, ?_, ?_⟩
          · repeat (first | (with_reducible exact hm3) | refine MemT.set (B := B) ?_ ha HV.out _ (by show B ≤ _; dsimp only; omega) _)
          · repeat (first | (with_reducible exact (((HK.out.trans hk1).trans hk2).no.trans hk3)) | refine kset HB.out ?_ _ (by show B ≤ _; dsimp only; omega) _)
      · have t1 : (s == 1) = false := beq_eq_false_iff_ne.2 hs1
        have e : tkTake ⟨ms, ml, mt, mc, md⟩ M ⟨t, l, s, r, x⟩ = (M, ⟨t, l, s, r, x⟩) := by simp [tkTake, hf, hs0, hs1]
        rw [e]
        clear hf e hbx hk hv hA2 hB hA hs0 hs1
        unfold handV
        dsimp only
        go_enter Try.func18, Try.ntmps18
        go_wp2_with fail
        refine (fits_any ms ml mt mc md t l s r x a v M _ HA2.out).mono ?_
        rw [HF.out]
        rintro e w1 ⟨rfl, hk1⟩
        have hb1 := HBX.out.no hk1
        obtain ⟨⟨m0, m1, m2, m3, m4⟩, ⟨c0, c1, c2, c3, c4⟩, ⟨r0, r1, r2, r3, r4⟩, ⟨f0, f1, f2, f3, f4⟩, ⟨g0, g1, g2, g3, g4⟩, z1, z2⟩ := hb1.facts
        have hm1 := HA2.out.keep hk1 (fun f => f) (fun _ _ f => f)
        have HB1 := Lib.hid hb1
        rw [HB.out]
        clear hb1
        go_wp2_with fail
        all_goals
          refine bodyPost_ret (v := .agg #[.int .i64 t, .int .i64 l, .int .i64 s, .bool r, .int .i64 x]) (by simp [results, Try.results18, go_sem, *]) rfl ⟨rfl, ?_, ?_⟩
          · repeat (first | (with_reducible exact hm1) | refine MemT.set (B := B) ?_ ha HV.out _ (by show B ≤ _; dsimp only; omega) _)
          · repeat (first | (with_reducible exact ((HK.out.trans hk1).no)) | refine kset HB.out ?_ _ (by show B ≤ _; dsimp only; omega) _)
def tkDrop (m : MapS) (M : MemS) (h : HandS) : MemS × HandS :=
  if h.s = 9 ∧ fitB m M.L.length h.t h.l = true then (M.storeI (lockP m h.l 2) (wrap64 (h.x + 1)), { h with s := 0, x := 0 }) else (M, h)
set_option maxHeartbeats 20000000 in
set_option maxRecDepth 100000 in
theorem drop_any (ms ml mt mc md t l s : Int) (r : Bool) (x : Int) (a : Nat) (v : Value) (M : MemS) (w : World) (hA : MemAt w a v M) : Calls Try.prog 17 #[.agg #[.int .i64 ms, .int .i64 ml, .int .i64 mt, .int .i64 mc, .int .i64 md], .pointer (some ⟨a, 0, none⟩), .agg #[.int .i64 t, .int .i64 l, .int .i64 s, .bool r, .int .i64 x]] w fun e w' => e = .returned (handV (tkDrop ⟨ms, ml, mt, mc, md⟩ M ⟨t, l, s, r, x⟩).2) ∧ MemAt w' a v (tkDrop ⟨ms, ml, mt, mc, md⟩ M ⟨t, l, s, r, x⟩).1 ∧ Keeps (own2m a v) w w' := by
  have hbx := bx_new w ms ml mt mc md t l s r x 25
  have hk : Keeps NoS w (((w.alloc (.cells #[.int .i64 ms, .int .i64 ml, .int .i64 mt, .int .i64 mc, .int .i64 md] 25)).alloc (.cells #[.int .i64 t, .int .i64 l, .int .i64 s, .bool r, .int .i64 x] 32)).alloc (.cells #[.int .i64 0, .int .i64 0, .int .i64 0, .bool false, .int .i64 0] 32)) := (((Keeps.refl NoS w).alloc _).alloc _).alloc _
  have ha := blk_lt hA.hd
  have hv : ∀ g, v.ownBlock = some g → g < w.heap.size := fun g hg => hA.own_lt hg
  have hA2 := hA.keep hk (fun f => f) (fun _ _ f => f)
  obtain ⟨B, hB⟩ : ∃ B, w.heap.size = B := ⟨_, rfl⟩
  rw [hB] at hbx hv ha
  have HB := Lib.hid hB; have HA2 := Lib.hid hA2; have HK := Lib.hid hk; have HV := Lib.hid hv; have HBX := Lib.hid hbx
  by_cases hs : s = 9
  · subst hs
    cases hf : fitB ⟨ms, ml, mt, mc, md⟩ M.L.length t l with
    | false =>
      have e : tkDrop ⟨ms, ml, mt, mc, md⟩ M ⟨t, l, 9, r, x⟩ = (M, ⟨t, l, 9, r, x⟩) := by simp [tkDrop, hf]
      rw [e]
      have HF := Lib.hid hf
      clear hf e hbx hk hv hA2 hB hA
      unfold handV
      dsimp only
      go_enter Try.func17, Try.ntmps17
      go_wp2_with fail
      refine (fits_any ms ml mt mc md t l 9 r x a v M _ HA2.out).mono ?_
      rw [HF.out]
      rintro e w1 ⟨rfl, hk1⟩
      have hb1 := HBX.out.no hk1
      obtain ⟨⟨m0, m1, m2, m3, m4⟩, ⟨c0, c1, c2, c3, c4⟩, ⟨r0, r1, r2, r3, r4⟩, ⟨f0, f1, f2, f3, f4⟩, ⟨g0, g1, g2, g3, g4⟩, z1, z2⟩ := hb1.facts
      have hm1 := HA2.out.keep hk1 (fun f => f) (fun _ _ f => f)
      have HB1 := Lib.hid hb1
      have hmh : MH B (B + 1) ms ml mt mc md t l 9 r x w1 := ⟨⟨m0, m1, m2, m3, m4⟩, c0, c1, c2, c3, c4⟩
      rw [HB.out]
      clear hb1
      go_wp2_with fail
      refine bodyPost_ret (v := .agg #[.int .i64 t, .int .i64 l, .int .i64 9, .bool r, .int .i64 x]) (by simp [results, Try.results17, go_sem, *]) rfl ⟨rfl, ?_, ?_⟩
      · repeat (first | (with_reducible exact hm1) | refine MemT.set (B := B) ?_ ha HV.out _ (by show B ≤ _; dsimp only; omega) _)
      · repeat (first | (with_reducible exact ((HK.out.trans hk1).no)) | refine kset HB.out ?_ _ (by show B ≤ _; dsimp only; omega) _)
    | true =>
      have HF := Lib.hid hf
      obtain ⟨lk, hlk⟩ : ∃ lk, lockP ⟨ms, ml, mt, mc, md⟩ l 2 = lk := ⟨_, rfl⟩
      have hin := fit_lock (p := 2) hf (by decide) (by decide)
      rw [hlk] at hin
      obtain ⟨y, hy⟩ : ∃ y, wrap64 (x + 1) = y := ⟨_, rfl⟩
      have e : tkDrop ⟨ms, ml, mt, mc, md⟩ M ⟨t, l, 9, r, x⟩ = (M.storeI lk y, ⟨t, l, 0, r, 0⟩) := by simp [tkDrop, hf, hlk, hy]
      rw [e]
      have HL := Lib.hid hlk; have HC := Lib.hid (codeP_in hin)
      have hy2 : IntKind.i64.wrap (x + 1) = y := (IntWalk.i64_left _).trans hy
      clear hf e hbx hk hv hA2 hB hA hlk hin
      unfold handV
      dsimp only
      go_enter Try.func17, Try.ntmps17
      go_wp2_with fail
      refine (fits_any ms ml mt mc md t l 9 r x a v M _ HA2.out).mono ?_
      rw [HF.out]
      rintro e w1 ⟨rfl, hk1⟩
      have hb1 := HBX.out.no hk1
      obtain ⟨⟨m0, m1, m2, m3, m4⟩, ⟨c0, c1, c2, c3, c4⟩, ⟨r0, r1, r2, r3, r4⟩, ⟨f0, f1, f2, f3, f4⟩, ⟨g0, g1, g2, g3, g4⟩, z1, z2⟩ := hb1.facts
      have hm1 := HA2.out.keep hk1 (fun f => f) (fun _ _ f => f)
      have HB1 := Lib.hid hb1
      have hmh : MH B (B + 1) ms ml mt mc md t l 9 r x w1 := ⟨⟨m0, m1, m2, m3, m4⟩, c0, c1, c2, c3, c4⟩
      rw [HB.out]
      clear hb1
      go_wp2_with fail
      go_region_held3 (fun w' => (w'.cell? ⟨B, 0, none⟩ = some (.int .i64 ms) ∧ w'.cell? ⟨B, 1, none⟩ = some (.int .i64 ml) ∧ w'.cell? ⟨B, 2, none⟩ = some (.int .i64 mt) ∧ w'.cell? ⟨B, 3, none⟩ = some (.int .i64 mc) ∧ w'.cell? ⟨B, 4, none⟩ = some (.int .i64 md)) ∧ (w'.cell? ⟨B + 1, 0, none⟩ = some (.int .i64 t) ∧ w'.cell? ⟨B + 1, 1, none⟩ = some (.int .i64 l) ∧ w'.cell? ⟨B + 1, 2, none⟩ = some (.int .i64 9) ∧ w'.cell? ⟨B + 1, 3, none⟩ = some (.bool r) ∧ w'.cell? ⟨B + 1, 4, none⟩ = some (.int .i64 x))) (first | exact hmh | exact hmh2 | exact hmh3) (first
        | (go_at_call 20; refine (lock_lit ms ml mt mc md l 2 lk HL.out _).mono ?_; rintro e w2 ⟨rfl, hk2⟩; have hmh2 := hmh.drew.no hk2)
        | (go_at_call 24; refine (store_tot a v M lk y _ ((hm1.keep ((Keeps.refl NoS _).drew) (fun f => f) (fun _ _ f => f)).keep hk2 (fun f => f) (fun _ _ f => f))).mono ?_; rw [HC.out]; rintro e w3 ⟨rfl, hm3, hk3⟩; have hb3 := ((HB1.out.no ((Keeps.refl NoS _).drew)).no hk2).own hk3 ha HV.out; have hmh3 : MH B (B + 1) ms ml mt mc md t l 9 r x w3 := ⟨hb3.facts.1, hb3.facts.2.1⟩))
      obtain ⟨⟨M0, M1, M2, M3, M4⟩, ⟨C0, C1, C2, C3, C4⟩, ⟨R0, R1, R2, R3, R4⟩, ⟨F0, F1, F2, F3, F4⟩, ⟨G0, G1, G2, G3, G4⟩, Z1, Z2⟩ := hb3.facts
      clear hb3 hmh hmh2 hmh3
      go_wp2_with fail
      refine bodyPost_ret (v := .agg #[.int .i64 t, .int .i64 l, .int .i64 0, .bool r, .int .i64 0]) (by simp [results, Try.results17, go_sem, *]) rfl ⟨rfl, ?_, ?_⟩
      · repeat (first | (with_reducible exact hm3) | refine MemT.set (B := B) ?_ ha HV.out _ (by show B ≤ _; dsimp only; omega) _)
      · repeat (first | (with_reducible exact ((((HK.out.trans hk1).trans ((Keeps.refl NoS _).drew)).trans hk2).no.trans hk3)) | refine kset HB.out ?_ _ (by show B ≤ _; dsimp only; omega) _)
  · have e : tkDrop ⟨ms, ml, mt, mc, md⟩ M ⟨t, l, s, r, x⟩ = (M, ⟨t, l, s, r, x⟩) := by simp [tkDrop, hs]
    rw [e]
    have t0 : (s != 9) = true := by simpa using hs
    have HX := Lib.hid hA
    clear e hbx hk hv hA2 hA hs HB HA2 HK HV HBX ha hB
    unfold handV
    dsimp only
    go_enter Try.func17, Try.ntmps17
    go_wp2_with fail
    refine bodyPost_ret (v := .agg #[.int .i64 t, .int .i64 l, .int .i64 s, .bool r, .int .i64 x]) (by simp [results, Try.results17, go_sem, *]) rfl ⟨rfl, ?_, ?_⟩
    · exact HX.out.keep ((((Keeps.refl NoS w).alloc _).alloc _).alloc _) (fun f => f) (fun _ _ f => f)
    · exact (((Keeps.refl _ w).alloc _).alloc _).alloc _
theorem fit_may (m : MapS) (n : Nat) (t l : Int) (h : sizeP m = (n : Int)) : fitB m n t l = (mayB m && (decide (0 ≤ t) && decide (t < m.t)) && (decide (0 ≤ l) && decide (l < m.l))) := by
  unfold fitB
  rw [decide_eq_true (show sizeP m ≤ (n : Int) by omega), Bool.true_and]
  cases hm : mayB m with
  | false => simp [threadP, lockP, hm]
  | true =>
    have hM := may_of hm
    have hb := starts_bd hM
    have e0 : inB 0 2 = true := rfl
    have e1 : inB 0 6 = true := rfl
    have et : decide (0 ≤ threadP m t 0) = (decide (0 ≤ t) && decide (t < m.t)) := by
      unfold threadP
      by_cases h : 0 ≤ t ∧ t < m.t
      · rw [hm, inB_of h.1 h.2, e0, Bool.eq_iff_iff]; simp; omega
      · rw [inB_not h, Bool.eq_iff_iff]; simp; omega
    have el : decide (0 ≤ lockP m l 0) = (decide (0 ≤ l) && decide (l < m.l)) := by
      unfold lockP
      by_cases h : 0 ≤ l ∧ l < m.l
      · rw [hm, inB_of h.1 h.2, e1, Bool.eq_iff_iff]; simp; omega
      · rw [inB_not h, Bool.eq_iff_iff]; simp; omega
    rw [et, el, Bool.true_and]
set_option maxHeartbeats 4000000 in
set_option maxRecDepth 100000 in
theorem rmayh_any (ms ml mt mc md t l s : Int) (r : Bool) (x : Int) (n : Nat) (hsz : sizeP ⟨ms, ml, mt, mc, md⟩ = (n : Int)) (w : World) : Calls Try.prog 71 #[.agg #[.int .i64 ms, .int .i64 ml, .int .i64 mt, .int .i64 mc, .int .i64 md], .agg #[.int .i64 t, .int .i64 l, .int .i64 s, .bool r, .int .i64 x]] w fun e w' => e = .returned (.bool (fitB ⟨ms, ml, mt, mc, md⟩ n t l)) ∧ Keeps NoS w w' := by
  rw [fit_may _ _ _ _ hsz]
  clear hsz
  obtain ⟨b0, hb0⟩ : ∃ b, mayB ⟨ms, ml, mt, mc, md⟩ = b := ⟨_, rfl⟩
  rw [hb0]
  have HB0 := Lib.hid hb0
  have hmh := mh_new w ms ml mt mc md t l s r x 43 32
  obtain ⟨B, hB⟩ : ∃ B, w.heap.size = B := ⟨_, rfl⟩
  rw [hB] at hmh
  have HB := Lib.hid hB; have HMH := Lib.hid hmh
  clear hb0 hmh hB
  dsimp only
  cases b0 <;> cases d1 : decide (0 ≤ t) <;> cases d2 : decide (t < mt) <;> cases d3 : decide (0 ≤ l) <;> cases d4 : decide (l < ml)
  all_goals
    go_enter Try.func71, Try.ntmps71
    go_wp2_with fail
    refine (rmay_any ⟨ms, ml, mt, mc, md⟩ _).mono ?_
    rw [HB0.out]
    rintro e w1 ⟨rfl, hk1⟩
    obtain ⟨⟨m0, m1, m2, m3, m4⟩, c0, c1, c2, c3, c4⟩ := HMH.out.no hk1
    rw [HB.out]
    go_wp2_with fail
    go_ret
    exact ⟨rfl, (((Keeps.refl NoS w).alloc _).alloc _).trans hk1⟩
set_option maxHeartbeats 20000000 in
set_option maxRecDepth 100000 in
theorem rtake_any (ms ml mt mc md t l s : Int) (r : Bool) (x : Int) (a : Nat) (v : Value) (M : MemS) (w : World) (hA : RefAt w a v M) (hsz : sizeP ⟨ms, ml, mt, mc, md⟩ = (M.L.length : Int)) : Calls Try.prog 27 #[.agg #[.int .i64 ms, .int .i64 ml, .int .i64 mt, .int .i64 mc, .int .i64 md], .pointer (some ⟨a, 0, none⟩), .agg #[.int .i64 t, .int .i64 l, .int .i64 s, .bool r, .int .i64 x]] w fun e w' => e = .returned (handV (tkTake ⟨ms, ml, mt, mc, md⟩ M ⟨t, l, s, r, x⟩).2) ∧ RefAt w' a v (tkTake ⟨ms, ml, mt, mc, md⟩ M ⟨t, l, s, r, x⟩).1 ∧ Keeps (own2m a v) w w' := by
  have hbx := bx_new w ms ml mt mc md t l s r x 43
  have hk : Keeps NoS w (((w.alloc (.cells #[.int .i64 ms, .int .i64 ml, .int .i64 mt, .int .i64 mc, .int .i64 md] 43)).alloc (.cells #[.int .i64 t, .int .i64 l, .int .i64 s, .bool r, .int .i64 x] 32)).alloc (.cells #[.int .i64 0, .int .i64 0, .int .i64 0, .bool false, .int .i64 0] 32)) := (((Keeps.refl NoS w).alloc _).alloc _).alloc _
  have ha := blk_lt hA.hd
  have HSZ := Lib.hid hsz
  have hv : ∀ g, v.ownBlock = some g → g < w.heap.size := fun g hg => hA.own_lt hg
  have hA2 := hA.keep hk (fun f => f) (fun _ _ f => f)
  clear hsz
  obtain ⟨B, hB⟩ : ∃ B, w.heap.size = B := ⟨_, rfl⟩
  rw [hB] at hbx hv ha
  have HB := Lib.hid hB; have HA2 := Lib.hid hA2; have HK := Lib.hid hk; have HV := Lib.hid hv; have HBX := Lib.hid hbx
  cases hf : fitB ⟨ms, ml, mt, mc, md⟩ M.L.length t l with
  | false =>
    have e : tkTake ⟨ms, ml, mt, mc, md⟩ M ⟨t, l, s, r, x⟩ = (M, ⟨t, l, s, r, x⟩) := by simp [tkTake, hf]
    rw [e]
    have HF := Lib.hid hf
    clear hf e hbx hk hv hA2 hB hA
    unfold handV
    dsimp only
    go_enter Try.func27, Try.ntmps27
    go_wp2_with fail
    refine (rmayh_any ms ml mt mc md t l s r x M.L.length HSZ.out _).mono ?_
    rw [HF.out]
    rintro e w1 ⟨rfl, hk1⟩
    obtain ⟨⟨m0, m1, m2, m3, m4⟩, ⟨c0, c1, c2, c3, c4⟩, ⟨r0, r1, r2, r3, r4⟩, ⟨f0, f1, f2, f3, f4⟩, ⟨g0, g1, g2, g3, g4⟩, z1, z2⟩ := (HBX.out.no hk1).facts
    have hm1 := HA2.out.keep hk1 (fun f => f) (fun _ _ f => f)
    rw [HB.out]
    go_wp2_with fail
    refine bodyPost_ret (v := .agg #[.int .i64 t, .int .i64 l, .int .i64 s, .bool r, .int .i64 x]) (by simp [results, Try.results27, go_sem, *]) rfl ⟨rfl, ?_, ?_⟩
    · repeat (first | (with_reducible exact hm1) | refine MemT.set (B := B) ?_ ha HV.out _ (by show B ≤ _; dsimp only; omega) _)
    · repeat (first | (with_reducible exact ((HK.out.trans hk1).no)) | refine kset HB.out ?_ _ (by show B ≤ _; dsimp only; omega) _)
  | true =>
    have HF := Lib.hid hf
    by_cases hs0 : s = 0
    · subst hs0
      obtain ⟨lk, hlk⟩ : ∃ lk, lockP ⟨ms, ml, mt, mc, md⟩ l 1 = lk := ⟨_, rfl⟩
      have hin := fit_lock (p := 1) hf (by decide) (by decide)
      rw [hlk] at hin
      have e : tkTake ⟨ms, ml, mt, mc, md⟩ M ⟨t, l, 0, r, x⟩ = (M.addI lk 1, ⟨t, l, 1, r, M.atP lk⟩) := by simp [tkTake, hf, hlk]
      rw [e]
      have HL := Lib.hid hlk; have HC := Lib.hid (codeP_in hin)
      clear hf e hbx hk hv hA2 hB hA hlk hin
      unfold handV
      dsimp only
      go_enter Try.func27, Try.ntmps27
      go_wp2_with fail
      refine (rmayh_any ms ml mt mc md t l 0 r x M.L.length HSZ.out _).mono ?_
      rw [HF.out]
      rintro e w1 ⟨rfl, hk1⟩
      have hb1 := HBX.out.no hk1
      obtain ⟨⟨m0, m1, m2, m3, m4⟩, ⟨c0, c1, c2, c3, c4⟩, ⟨r0, r1, r2, r3, r4⟩, ⟨f0, f1, f2, f3, f4⟩, ⟨g0, g1, g2, g3, g4⟩, z1, z2⟩ := hb1.facts
      have hm1 := HA2.out.keep hk1 (fun f => f) (fun _ _ f => f)
      have HB1 := Lib.hid hb1
      rw [HB.out]
      clear hb1
      go_wp2_with (first
        | (go_at_call 22; refine (rlock_lit ms ml mt mc md l 1 lk HL.out _).mono ?_; rintro e w2 ⟨rfl, hk2⟩)
        | (go_at_call 72; refine (radd_tot a v M lk 1 _ (hm1.keep hk2 (fun f => f) (fun _ _ f => f))).mono ?_; rw [HC.out]; rintro e w3 ⟨rfl, hm3, hk3⟩; have hb3 := (HB1.out.no hk2).own hk3 ha HV.out; obtain ⟨⟨M0, M1, M2, M3, M4⟩, ⟨C0, C1, C2, C3, C4⟩, ⟨R0, R1, R2, R3, R4⟩, ⟨F0, F1, F2, F3, F4⟩, ⟨G0, G1, G2, G3, G4⟩, Z1, Z2⟩ := hb3.facts; clear hb3))
      refine bodyPost_ret (v := .agg #[.int .i64 t, .int .i64 l, .int .i64 1, .bool r, .int .i64 (M.atP lk)]) (by simp [results, Try.results27, go_sem, *]) rfl ⟨rfl, ?_, ?_⟩
      · repeat (first | (with_reducible exact hm3) | refine MemT.set (B := B) ?_ ha HV.out _ (by show B ≤ _; dsimp only; omega) _)
      · repeat (first | (with_reducible exact (((HK.out.trans hk1).trans hk2).no.trans hk3)) | refine kset HB.out ?_ _ (by show B ≤ _; dsimp only; omega) _)
    · have t0 : (s == 0) = false := beq_eq_false_iff_ne.2 hs0
      by_cases hs1 : s = 1
      · subst hs1
        obtain ⟨lk, hlk⟩ : ∃ lk, lockP ⟨ms, ml, mt, mc, md⟩ l 2 = lk := ⟨_, rfl⟩
        have hin := fit_lock (p := 2) hf (by decide) (by decide)
        rw [hlk] at hin
        have HL := Lib.hid hlk; have HC := Lib.hid (codeP_in hin)
        obtain ⟨y, hy⟩ : ∃ y, M.atP lk = y := ⟨_, rfl⟩
        have HY := Lib.hid hy
        by_cases hyx : y = x
        · have e : tkTake ⟨ms, ml, mt, mc, md⟩ M ⟨t, l, 1, r, x⟩ = (M.loadI lk, ⟨t, l, 9, r, x⟩) := by simp [tkTake, hf, hlk, hy, hyx]
          rw [e]
          subst hyx
          clear hf e hbx hk hv hA2 hB hA hlk hin hs0 t0 hy
          unfold handV
          dsimp only
          go_enter Try.func27, Try.ntmps27
          go_wp2_with fail
          refine (rmayh_any ms ml mt mc md t l 1 r y M.L.length HSZ.out _).mono ?_
          rw [HF.out]
          rintro e w1 ⟨rfl, hk1⟩
          have hb1 := HBX.out.no hk1
          obtain ⟨⟨m0, m1, m2, m3, m4⟩, ⟨c0, c1, c2, c3, c4⟩, ⟨r0, r1, r2, r3, r4⟩, ⟨f0, f1, f2, f3, f4⟩, ⟨g0, g1, g2, g3, g4⟩, z1, z2⟩ := hb1.facts
          have hm1 := HA2.out.keep hk1 (fun f => f) (fun _ _ f => f)
          have HB1 := Lib.hid hb1
          rw [HB.out]
          clear hb1
          go_wp2_with (first
            | (go_at_call 22; refine (rlock_lit ms ml mt mc md l 2 lk HL.out _).mono ?_; rintro e w2 ⟨rfl, hk2⟩)
            | (go_at_call 73; refine (rload_tot a v M lk _ (hm1.keep hk2 (fun f => f) (fun _ _ f => f))).mono ?_; rw [HC.out, HY.out]; rintro e w3 ⟨rfl, hm3, hk3⟩; have hb3 := (HB1.out.no hk2).own hk3 ha HV.out; obtain ⟨⟨M0, M1, M2, M3, M4⟩, ⟨C0, C1, C2, C3, C4⟩, ⟨R0, R1, R2, R3, R4⟩, ⟨F0, F1, F2, F3, F4⟩, ⟨G0, G1, G2, G3, G4⟩, Z1, Z2⟩ := hb3.facts; clear hb3))
          refine bodyPost_ret (v := .agg #[.int .i64 t, .int .i64 l, .int .i64 9, .bool r, .int .i64 y]) (by simp [results, Try.results27, go_sem, *]) rfl ⟨rfl, ?_, ?_⟩
          · repeat (first | (with_reducible exact hm3) | refine MemT.set (B := B) ?_ ha HV.out _ (by show B ≤ _; dsimp only; omega) _)
          · repeat (first | (with_reducible exact (((HK.out.trans hk1).trans hk2).no.trans hk3)) | refine kset HB.out ?_ _ (by show B ≤ _; dsimp only; omega) _)
        · have e : tkTake ⟨ms, ml, mt, mc, md⟩ M ⟨t, l, 1, r, x⟩ = (M.loadI lk, ⟨t, l, 1, r, x⟩) := by simp [tkTake, hf, hlk, hy, hyx]
          rw [e]
          have hyb : (y == x) = false := beq_eq_false_iff_ne.2 hyx
          clear hf e hbx hk hv hA2 hB hA hlk hin hs0 t0 hy hyx
          unfold handV
          dsimp only
          go_enter Try.func27, Try.ntmps27
          go_wp2_with fail
          refine (rmayh_any ms ml mt mc md t l 1 r x M.L.length HSZ.out _).mono ?_
          rw [HF.out]
          rintro e w1 ⟨rfl, hk1⟩
          have hb1 := HBX.out.no hk1
          obtain ⟨⟨m0, m1, m2, m3, m4⟩, ⟨c0, c1, c2, c3, c4⟩, ⟨r0, r1, r2, r3, r4⟩, ⟨f0, f1, f2, f3, f4⟩, ⟨g0, g1, g2, g3, g4⟩, z1, z2⟩ := hb1.facts
          have hm1 := HA2.out.keep hk1 (fun f => f) (fun _ _ f => f)
          have HB1 := Lib.hid hb1
          rw [HB.out]
          clear hb1
          go_wp2_with (first
            | (go_at_call 22; refine (rlock_lit ms ml mt mc md l 2 lk HL.out _).mono ?_; rintro e w2 ⟨rfl, hk2⟩)
            | (go_at_call 73; refine (rload_tot a v M lk _ (hm1.keep hk2 (fun f => f) (fun _ _ f => f))).mono ?_; rw [HC.out, HY.out]; rintro e w3 ⟨rfl, hm3, hk3⟩; have hb3 := (HB1.out.no hk2).own hk3 ha HV.out; obtain ⟨⟨M0, M1, M2, M3, M4⟩, ⟨C0, C1, C2, C3, C4⟩, ⟨R0, R1, R2, R3, R4⟩, ⟨F0, F1, F2, F3, F4⟩, ⟨G0, G1, G2, G3, G4⟩, Z1, Z2⟩ := hb3.facts; clear hb3))
          refine bodyPost_ret (v := .agg #[.int .i64 t, .int .i64 l, .int .i64 1, .bool r, .int .i64 x]) (by simp [results, Try.results27, go_sem, *]) rfl ⟨rfl, ?_, ?_⟩
          · repeat (first | (with_reducible exact hm3) | refine MemT.set (B := B) ?_ ha HV.out _ (by show B ≤ _; dsimp only; omega) _)
          · repeat (first | (with_reducible exact (((HK.out.trans hk1).trans hk2).no.trans hk3)) | refine kset HB.out ?_ _ (by show B ≤ _; dsimp only; omega) _)
      · have t1 : (s == 1) = false := beq_eq_false_iff_ne.2 hs1
        have e : tkTake ⟨ms, ml, mt, mc, md⟩ M ⟨t, l, s, r, x⟩ = (M, ⟨t, l, s, r, x⟩) := by simp [tkTake, hf, hs0, hs1]
        rw [e]
        clear hf e hbx hk hv hA2 hB hA hs0 hs1
        unfold handV
        dsimp only
        go_enter Try.func27, Try.ntmps27
        go_wp2_with fail
        refine (rmayh_any ms ml mt mc md t l s r x M.L.length HSZ.out _).mono ?_
        rw [HF.out]
        rintro e w1 ⟨rfl, hk1⟩
        have hb1 := HBX.out.no hk1
        obtain ⟨⟨m0, m1, m2, m3, m4⟩, ⟨c0, c1, c2, c3, c4⟩, ⟨r0, r1, r2, r3, r4⟩, ⟨f0, f1, f2, f3, f4⟩, ⟨g0, g1, g2, g3, g4⟩, z1, z2⟩ := hb1.facts
        have hm1 := HA2.out.keep hk1 (fun f => f) (fun _ _ f => f)
        have HB1 := Lib.hid hb1
        rw [HB.out]
        clear hb1
        go_wp2_with fail
        all_goals
          refine bodyPost_ret (v := .agg #[.int .i64 t, .int .i64 l, .int .i64 s, .bool r, .int .i64 x]) (by simp [results, Try.results27, go_sem, *]) rfl ⟨rfl, ?_, ?_⟩
          · repeat (first | (with_reducible exact hm1) | refine MemT.set (B := B) ?_ ha HV.out _ (by show B ≤ _; dsimp only; omega) _)
          · repeat (first | (with_reducible exact ((HK.out.trans hk1).no)) | refine kset HB.out ?_ _ (by show B ≤ _; dsimp only; omega) _)
set_option maxHeartbeats 20000000 in
set_option maxRecDepth 100000 in
theorem rdrop_any (ms ml mt mc md t l s : Int) (r : Bool) (x : Int) (a : Nat) (v : Value) (M : MemS) (w : World) (hA : RefAt w a v M) (hsz : sizeP ⟨ms, ml, mt, mc, md⟩ = (M.L.length : Int)) : Calls Try.prog 31 #[.agg #[.int .i64 ms, .int .i64 ml, .int .i64 mt, .int .i64 mc, .int .i64 md], .pointer (some ⟨a, 0, none⟩), .agg #[.int .i64 t, .int .i64 l, .int .i64 s, .bool r, .int .i64 x]] w fun e w' => e = .returned (handV (tkDrop ⟨ms, ml, mt, mc, md⟩ M ⟨t, l, s, r, x⟩).2) ∧ RefAt w' a v (tkDrop ⟨ms, ml, mt, mc, md⟩ M ⟨t, l, s, r, x⟩).1 ∧ Keeps (own2m a v) w w' := by
  have hbx := bx_new w ms ml mt mc md t l s r x 43
  have hk : Keeps NoS w (((w.alloc (.cells #[.int .i64 ms, .int .i64 ml, .int .i64 mt, .int .i64 mc, .int .i64 md] 43)).alloc (.cells #[.int .i64 t, .int .i64 l, .int .i64 s, .bool r, .int .i64 x] 32)).alloc (.cells #[.int .i64 0, .int .i64 0, .int .i64 0, .bool false, .int .i64 0] 32)) := (((Keeps.refl NoS w).alloc _).alloc _).alloc _
  have ha := blk_lt hA.hd
  have HSZ := Lib.hid hsz
  have hv : ∀ g, v.ownBlock = some g → g < w.heap.size := fun g hg => hA.own_lt hg
  have hA2 := hA.keep hk (fun f => f) (fun _ _ f => f)
  clear hsz
  obtain ⟨B, hB⟩ : ∃ B, w.heap.size = B := ⟨_, rfl⟩
  rw [hB] at hbx hv ha
  have HB := Lib.hid hB; have HA2 := Lib.hid hA2; have HK := Lib.hid hk; have HV := Lib.hid hv; have HBX := Lib.hid hbx
  by_cases hs : s = 9
  · subst hs
    cases hf : fitB ⟨ms, ml, mt, mc, md⟩ M.L.length t l with
    | false =>
      have e : tkDrop ⟨ms, ml, mt, mc, md⟩ M ⟨t, l, 9, r, x⟩ = (M, ⟨t, l, 9, r, x⟩) := by simp [tkDrop, hf]
      rw [e]
      have HF := Lib.hid hf
      clear hf e hbx hk hv hA2 hB hA
      unfold handV
      dsimp only
      go_enter Try.func31, Try.ntmps31
      go_wp2_with fail
      refine (rmayh_any ms ml mt mc md t l 9 r x M.L.length HSZ.out _).mono ?_
      rw [HF.out]
      rintro e w1 ⟨rfl, hk1⟩
      have hb1 := HBX.out.no hk1
      obtain ⟨⟨m0, m1, m2, m3, m4⟩, ⟨c0, c1, c2, c3, c4⟩, ⟨r0, r1, r2, r3, r4⟩, ⟨f0, f1, f2, f3, f4⟩, ⟨g0, g1, g2, g3, g4⟩, z1, z2⟩ := hb1.facts
      have hm1 := HA2.out.keep hk1 (fun f => f) (fun _ _ f => f)
      have HB1 := Lib.hid hb1
      have hmh : MH B (B + 1) ms ml mt mc md t l 9 r x w1 := ⟨⟨m0, m1, m2, m3, m4⟩, c0, c1, c2, c3, c4⟩
      rw [HB.out]
      clear hb1
      go_wp2_with fail
      refine bodyPost_ret (v := .agg #[.int .i64 t, .int .i64 l, .int .i64 9, .bool r, .int .i64 x]) (by simp [results, Try.results31, go_sem, *]) rfl ⟨rfl, ?_, ?_⟩
      · repeat (first | (with_reducible exact hm1) | refine MemT.set (B := B) ?_ ha HV.out _ (by show B ≤ _; dsimp only; omega) _)
      · repeat (first | (with_reducible exact ((HK.out.trans hk1).no)) | refine kset HB.out ?_ _ (by show B ≤ _; dsimp only; omega) _)
    | true =>
      have HF := Lib.hid hf
      obtain ⟨lk, hlk⟩ : ∃ lk, lockP ⟨ms, ml, mt, mc, md⟩ l 2 = lk := ⟨_, rfl⟩
      have hin := fit_lock (p := 2) hf (by decide) (by decide)
      rw [hlk] at hin
      obtain ⟨y, hy⟩ : ∃ y, wrap64 (x + 1) = y := ⟨_, rfl⟩
      have e : tkDrop ⟨ms, ml, mt, mc, md⟩ M ⟨t, l, 9, r, x⟩ = (M.storeI lk y, ⟨t, l, 0, r, 0⟩) := by simp [tkDrop, hf, hlk, hy]
      rw [e]
      have HL := Lib.hid hlk; have HC := Lib.hid (codeP_in hin)
      have hy2 : IntKind.i64.wrap (x + 1) = y := (IntWalk.i64_left _).trans hy
      clear hf e hbx hk hv hA2 hB hA hlk hin
      unfold handV
      dsimp only
      go_enter Try.func31, Try.ntmps31
      go_wp2_with fail
      refine (rmayh_any ms ml mt mc md t l 9 r x M.L.length HSZ.out _).mono ?_
      rw [HF.out]
      rintro e w1 ⟨rfl, hk1⟩
      have hb1 := HBX.out.no hk1
      obtain ⟨⟨m0, m1, m2, m3, m4⟩, ⟨c0, c1, c2, c3, c4⟩, ⟨r0, r1, r2, r3, r4⟩, ⟨f0, f1, f2, f3, f4⟩, ⟨g0, g1, g2, g3, g4⟩, z1, z2⟩ := hb1.facts
      have hm1 := HA2.out.keep hk1 (fun f => f) (fun _ _ f => f)
      have HB1 := Lib.hid hb1
      have hmh : MH B (B + 1) ms ml mt mc md t l 9 r x w1 := ⟨⟨m0, m1, m2, m3, m4⟩, c0, c1, c2, c3, c4⟩
      rw [HB.out]
      clear hb1
      go_wp2_with fail
      go_region_held3 (fun w' => (w'.cell? ⟨B, 0, none⟩ = some (.int .i64 ms) ∧ w'.cell? ⟨B, 1, none⟩ = some (.int .i64 ml) ∧ w'.cell? ⟨B, 2, none⟩ = some (.int .i64 mt) ∧ w'.cell? ⟨B, 3, none⟩ = some (.int .i64 mc) ∧ w'.cell? ⟨B, 4, none⟩ = some (.int .i64 md)) ∧ (w'.cell? ⟨B + 1, 0, none⟩ = some (.int .i64 t) ∧ w'.cell? ⟨B + 1, 1, none⟩ = some (.int .i64 l) ∧ w'.cell? ⟨B + 1, 2, none⟩ = some (.int .i64 9) ∧ w'.cell? ⟨B + 1, 3, none⟩ = some (.bool r) ∧ w'.cell? ⟨B + 1, 4, none⟩ = some (.int .i64 x))) (first | exact hmh | exact hmh2 | exact hmh3) (first
        | (go_at_call 22; refine (rlock_lit ms ml mt mc md l 2 lk HL.out _).mono ?_; rintro e w2 ⟨rfl, hk2⟩; have hmh2 := hmh.drew.no hk2)
        | (go_at_call 25; refine (rstore_tot a v M lk y _ ((hm1.keep ((Keeps.refl NoS _).drew) (fun f => f) (fun _ _ f => f)).keep hk2 (fun f => f) (fun _ _ f => f))).mono ?_; rw [HC.out]; rintro e w3 ⟨rfl, hm3, hk3⟩; have hb3 := ((HB1.out.no ((Keeps.refl NoS _).drew)).no hk2).own hk3 ha HV.out; have hmh3 : MH B (B + 1) ms ml mt mc md t l 9 r x w3 := ⟨hb3.facts.1, hb3.facts.2.1⟩))
      obtain ⟨⟨M0, M1, M2, M3, M4⟩, ⟨C0, C1, C2, C3, C4⟩, ⟨R0, R1, R2, R3, R4⟩, ⟨F0, F1, F2, F3, F4⟩, ⟨G0, G1, G2, G3, G4⟩, Z1, Z2⟩ := hb3.facts
      clear hb3 hmh hmh2 hmh3
      go_wp2_with fail
      refine bodyPost_ret (v := .agg #[.int .i64 t, .int .i64 l, .int .i64 0, .bool r, .int .i64 0]) (by simp [results, Try.results31, go_sem, *]) rfl ⟨rfl, ?_, ?_⟩
      · repeat (first | (with_reducible exact hm3) | refine MemT.set (B := B) ?_ ha HV.out _ (by show B ≤ _; dsimp only; omega) _)
      · repeat (first | (with_reducible exact ((((HK.out.trans hk1).trans ((Keeps.refl NoS _).drew)).trans hk2).no.trans hk3)) | refine kset HB.out ?_ _ (by show B ≤ _; dsimp only; omega) _)
  · have e : tkDrop ⟨ms, ml, mt, mc, md⟩ M ⟨t, l, s, r, x⟩ = (M, ⟨t, l, s, r, x⟩) := by simp [tkDrop, hs]
    rw [e]
    have t0 : (s != 9) = true := by simpa using hs
    cases hf : fitB ⟨ms, ml, mt, mc, md⟩ M.L.length t l
    all_goals
      have HF := Lib.hid hf
      clear hf hbx hk hv hA2 hB hA hs
      unfold handV
      dsimp only
      go_enter Try.func31, Try.ntmps31
      go_wp2_with fail
      refine (rmayh_any ms ml mt mc md t l s r x M.L.length HSZ.out _).mono ?_
      rw [HF.out]
      rintro e w1 ⟨rfl, hk1⟩
      have hb1 := HBX.out.no hk1
      obtain ⟨⟨m0, m1, m2, m3, m4⟩, ⟨c0, c1, c2, c3, c4⟩, ⟨r0, r1, r2, r3, r4⟩, ⟨f0, f1, f2, f3, f4⟩, ⟨g0, g1, g2, g3, g4⟩, z1, z2⟩ := hb1.facts
      have hm1 := HA2.out.keep hk1 (fun f => f) (fun _ _ f => f)
      have HB1 := Lib.hid hb1
      have hmh : MH B (B + 1) ms ml mt mc md t l s r x w1 := ⟨⟨m0, m1, m2, m3, m4⟩, c0, c1, c2, c3, c4⟩
      rw [HB.out]
      clear hb1
      go_wp2_with fail
      refine bodyPost_ret (v := .agg #[.int .i64 t, .int .i64 l, .int .i64 s, .bool r, .int .i64 x]) (by simp [results, Try.results31, go_sem, *]) rfl ⟨rfl, ?_, ?_⟩
      · repeat (first | (with_reducible exact hm1) | refine MemT.set (B := B) ?_ ha HV.out _ (by show B ≤ _; dsimp only; omega) _)
      · repeat (first | (with_reducible exact ((HK.out.trans hk1).no)) | refine kset HB.out ?_ _ (by show B ≤ _; dsimp only; omega) _)
end Go.Proofs.Ytodaiogefgdcpaa

