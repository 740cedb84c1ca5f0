/- Layer 17's example; the walks of WordsAsks and WordsWatch. -/
import Derived.Test.YtiomicjfbbkbaaaWords
namespace Go.Proofs.Ytiomicjfbbkbaaa
open Go.RowKit
/-- a map in a block of its own -/
def MapAt (w : World) (b : Nat) (ms ml mt mc md : Int) : Prop := w.cell? ⟨b, 0, none⟩ = some (.int .i64 ms) ∧ w.cell? ⟨b, 1, none⟩ = some (.int .i64 ml) ∧ w.cell? ⟨b, 2, none⟩ = some (.int .i64 mt) ∧ w.cell? ⟨b, 3, none⟩ = some (.int .i64 mc) ∧ w.cell? ⟨b, 4, none⟩ = some (.int .i64 md)
theorem MapAt.keep {w w' : World} {b : Nat} {ms ml mt mc md : Int} (h : MapAt w b ms ml mt mc md) (k : Keeps NoS w w') : MapAt w' b ms ml mt mc md :=
  ⟨k.cell h.1 (fun f => f), k.cell h.2.1 (fun f => f), k.cell h.2.2.1 (fun f => f), k.cell h.2.2.2.1 (fun f => f), k.cell h.2.2.2.2 (fun f => f)⟩
theorem mapAt_new (w : World) (ms ml mt mc md : Int) (t : TypeId) : MapAt (w.alloc (.cells #[.int .i64 ms, .int .i64 ml, .int .i64 mt, .int .i64 mc, .int .i64 md] t)) w.heap.size ms ml mt mc md := by
  refine ⟨?_, ?_, ?_, ?_, ?_⟩ <;> rw [blk_cell (heap_alloc_new _ _)] <;> rfl
theorem MapAt.drew {w : World} {b : Nat} {ms ml mt mc md : Int} (h : MapAt w b ms ml mt mc md) : MapAt w.drew b ms ml mt mc md := h
theorem MapAt.drewN {w : World} {b : Nat} {ms ml mt mc md : Int} (h : MapAt w b ms ml mt mc md) (n : Nat) : MapAt (w.drewN n) b ms ml mt mc md := h
theorem watched_lit (ms ml mt mc md l : Int) (a b : Bool) (w : World) : Calls Try.prog 14 #[.agg #[.int .i64 ms, .int .i64 ml, .int .i64 mt, .int .i64 mc, .int .i64 md], .int .i64 l, .bool a, .bool b] w fun e w' => ∃ v, e = .returned v ∧ RowI w' v (watchL ⟨ms, ml, mt, mc, md⟩ l a b) ∧ Keeps NoS w w' := watched_any ⟨ms, ml, mt, mc, md⟩ l a b w
theorem mark_lit (ms ml mt mc md l : Int) (a b : Bool) (w : World) : Calls Try.prog 17 #[.agg #[.int .i64 ms, .int .i64 ml, .int .i64 mt, .int .i64 mc, .int .i64 md], .int .i64 l, .bool a, .bool b] w fun e w' => e = .returned (.tuple #[.int .i64 (markP ⟨ms, ml, mt, mc, md⟩ l a b), .int .i64 (markN ⟨ms, ml, mt, mc, md⟩ l a b)]) ∧ Keeps NoS w w' := mark_any ⟨ms, ml, mt, mc, md⟩ l a b w
theorem lock_8_0_4 : lockP ⟨2, 2, 4, 0, 2⟩ 0 4 = 8 := by decide
theorem lock_8_1_5 : lockP ⟨2, 2, 4, 0, 2⟩ 1 5 = 15 := by decide
theorem mark_8_1 : markP ⟨2, 2, 4, 0, 2⟩ 1 true false = 15 ∧ markN ⟨2, 2, 4, 0, 2⟩ 1 true false = 65 := by decide
theorem held_8 : heldB ⟨2, 2, 4, 0, 2⟩ 0 8 3 = true := by decide
set_option maxHeartbeats 400000 in
set_option maxRecDepth 100000 in
theorem told17_any (w : World) : Calls Try.prog 19 #[] w fun e w' => e = .returned (.bool true) ∧ Keeps NoS w w' := by
  go_enter Try.func19, Try.ntmps19
  go_wp2_with fail
  refine (map8_any _).mono ?_
  rintro e w1 ⟨rfl, hk1⟩
  unfold mapV
  dsimp only
  go_wp2_with fail
  have hm := mapAt_new w1 2 2 4 0 2 26
  have hk2 : Keeps NoS w (w1.alloc (.cells #[.int .i64 2, .int .i64 2, .int .i64 4, .int .i64 0, .int .i64 2] 26)) := hk1.alloc _
  obtain ⟨B, hB⟩ : ∃ B, w1.heap.size = B := ⟨_, rfl⟩
  rw [hB] at hm
  rw [hB]
  clear hB
  generalize w1.alloc (.cells #[.int .i64 2, .int .i64 2, .int .i64 4, .int .i64 0, .int .i64 2] 26) = W at *
  refine (mark_any ⟨2, 2, 4, 0, 2⟩ 1 true false _).mono ?_
  rw [mark_8_1.1, mark_8_1.2]
  rintro e w3 ⟨rfl, hk3⟩
  have hm3 := hm.keep hk3
  have hkw := hk2.trans hk3
  clear hm hk1 hk2 hk3
  go_wp2_with fail
  go_region_held3 (fun w' => (w'.cell? ⟨B, 0, none⟩ = some (.int .i64 2) ∧ w'.cell? ⟨B, 1, none⟩ = some (.int .i64 2) ∧ w'.cell? ⟨B, 2, none⟩ = some (.int .i64 4) ∧ w'.cell? ⟨B, 3, none⟩ = some (.int .i64 0) ∧ w'.cell? ⟨B, 4, none⟩ = some (.int .i64 2))) (first | exact hm3 | exact hm4 | exact hm5 | exact hm6) (first
    | (go_at_call 16; (with_reducible refine (lock_lit 2 2 4 0 2 0 4 8 lock_8_0_4 _).mono ?_); rintro e w4 ⟨rfl, hk4⟩; have hm4 := hm3.drew.keep hk4)
    | (go_at_call 20; refine (held_any ⟨2, 2, 4, 0, 2⟩ 0 8 3 _).mono ?_; rw [held_8]; rintro e w5 ⟨rfl, hk5⟩; have hm5 := hm4.keep hk5)
    | (go_at_call 16; (with_reducible refine (lock_lit 2 2 4 0 2 1 5 15 lock_8_1_5 _).mono ?_); rintro e w6 ⟨rfl, hk6⟩; have hm6 := hm5.keep hk6))
  go_wp2_with fail
  go_ret
  exact ⟨rfl, (((hkw.trans ((Keeps.refl NoS _).drew)).trans hk4).trans hk5).trans hk6⟩
theorem nearm_lit (k0 k1 k2 k3 k4 : Int) (m : MapS) (h : nearM [k0, k1, k2, k3, k4] = m) (w : World) : Calls Try.prog 8 #[.agg #[.int .i64 k0, .int .i64 k1, .int .i64 k2, .int .i64 k3, .int .i64 k4]] w fun e w' => e = .returned (mapV m) ∧ Keeps NoS w w' := by
  subst h; exact nearm_any [k0, k1, k2, k3, k4] rfl w
theorem list5 {k : List Int} (h : k.length = 5) : ∃ k0 k1 k2 k3 k4, k = [k0, k1, k2, k3, k4] := by
  match k, h with
  | [a, b, c, d, e], _ => exact ⟨a, b, c, d, e, rfl⟩
theorem RowI.at {w : World} {v : Value} {L : List Int} (h : RowI w v L) (hn : 0 < L.length) : ∃ g cap, v = .slice (some ⟨g, 0, none⟩) L.length cap ∧ ∀ j, j < L.length → w.cell? ⟨g, j, none⟩ = some (.int .i64 (L.getD j 0)) := by
  rcases h with ⟨_, rfl⟩ | h
  · simp at hn
  · exact h
theorem RowI.drew {w : World} {v : Value} {L : List Int} (h : RowI w v L) : RowI w.drew v L := h.keep ((Keeps.refl NoS w).drew)
set_option maxHeartbeats 1000000 in
set_option maxRecDepth 100000 in
theorem wordsWatch_walk (w : World) (z0 : List Int) (e0 : z0.length = 5) (_f0 : ∀ k, k < z0.length → (Lit.int .i64 (z0.getD k 0)).wf = true) (a1 : Int) (_w1 : (Lit.int .i64 a1).wf = true) :
    Calls Try.prog 6 #[.agg (nums z0), .int .i64 a1] w fun e w' => e = .returned (.bool true) ∧ Keeps NoS w w' := by
  obtain ⟨k0, k1, k2, k3, k4, rfl⟩ := list5 e0
  obtain ⟨n1, n2⟩ := u64_tmod_bd a1 4 (by decide)
  obtain ⟨l, hl⟩ : ∃ l, (IntKind.u64.wrap a1).tmod 4 = l := ⟨_, rfl⟩
  rw [hl] at n1 n2
  have hmay := nearM_may [k0, k1, k2, k3, k4]
  obtain ⟨⟨ms, ml, mt, mc, md⟩, hm⟩ : ∃ m, nearM [k0, k1, k2, k3, k4] = m := ⟨_, rfl⟩
  rw [hm] at hmay
  have HM := Lib.hid hm; have HMAY := Lib.hid hmay
  have h45 := lock45 ⟨ms, ml, mt, mc, md⟩ l
  have H45 := Lib.hid h45
  clear hm hmay e0 h45 _f0 _w1
  show Calls Try.prog 6 #[.agg #[.int .i64 k0, .int .i64 k1, .int .i64 k2, .int .i64 k3, .int .i64 k4], .int .i64 a1] w _
  go_enter Try.func6, Try.ntmps6
  go_wp2_with fail
  refine (nearm_lit k0 k1 k2 k3 k4 _ HM.out _).mono ?_
  rintro e w1 ⟨rfl, hk1⟩
  unfold mapV
  dsimp only
  go_wp2_with fail
  have hmA := mapAt_new w1 ms ml mt mc md 26
  have hk2 : Keeps NoS w (w1.alloc (.cells #[.int .i64 ms, .int .i64 ml, .int .i64 mt, .int .i64 mc, .int .i64 md] 26)) := (((Keeps.refl NoS w).alloc _).trans hk1).alloc _
  obtain ⟨B, hB⟩ : ∃ B, w1.heap.size = B := ⟨_, rfl⟩
  rw [hB] at hmA
  rw [hB]
  clear hB hk1
  generalize w1.alloc (.cells #[.int .i64 ms, .int .i64 ml, .int .i64 mt, .int .i64 mc, .int .i64 md] 26) = W at *
  go_region_held3 (fun w' => (w'.cell? ⟨B, 0, none⟩ = some (.int .i64 ms) ∧ w'.cell? ⟨B, 1, none⟩ = some (.int .i64 ml) ∧ w'.cell? ⟨B, 2, none⟩ = some (.int .i64 mt) ∧ w'.cell? ⟨B, 3, none⟩ = some (.int .i64 mc) ∧ w'.cell? ⟨B, 4, none⟩ = some (.int .i64 md))) (first | exact hmA | exact hm4 | exact hm5 | exact hm6) (first
    | (go_at_call 14; (with_reducible refine (watched_lit ms ml mt mc md l true false _).mono ?_); rintro e w4 ⟨va, rfl, ra, hk4⟩; have hm4 := hmA.drew.keep hk4; obtain ⟨pa, ca, rfl⟩ := ra.slice)
    | (go_at_call 14; (with_reducible refine (watched_lit ms ml mt mc md l true true _).mono ?_); rintro e w5 ⟨vb, rfl, rb, hk5⟩; have hm5 := hm4.keep hk5; have ra5 := ra.keep hk5; obtain ⟨pb, cb, rfl⟩ := rb.slice)
    | (go_at_call 14; (with_reducible refine (watched_lit ms ml mt mc md l false false _).mono ?_); rintro e w6 ⟨vc, rfl, rc, hk6⟩; have hm6 := hm5.keep hk6; have ra6 := ra5.keep hk6; have rb6 := rb.keep hk6; obtain ⟨pc, cc, rfl⟩ := rc.slice))
  have HK := Lib.hid ((((hk2.trans ((Keeps.refl NoS _).drew)).trans hk4).trans hk5).trans hk6)
  obtain ⟨g0, g1, g2, g3, g4⟩ := hm6
  have RA := Lib.hid ra6; have RB := Lib.hid rb6; have RC := Lib.hid rc
  clear ra ra5 ra6 rb rb6 rc hk2 hk4 hk5 hk6 hmA hm4 hm5
  by_cases hlt : l < ml
  · have hx : lockP ⟨ms, ml, mt, mc, md⟩ l 4 = p1 ⟨ms, ml, mt, mc, md⟩ + 6 * l + 4 := by
      unfold lockP; rw [of_may HMAY.out, inB_of n1 hlt]; rfl
    have hx0 : 0 ≤ lockP ⟨ms, ml, mt, mc, md⟩ l 4 := by have := (starts_bd HMAY.out).1; omega
    have hxn : ¬ lockP ⟨ms, ml, mt, mc, md⟩ l 4 < 0 := by omega
    have ho := H45.out
    have hy : lockP ⟨ms, ml, mt, mc, md⟩ l 5 = lockP ⟨ms, ml, mt, mc, md⟩ l 4 + 1 := by omega
    have hxb : lockP ⟨ms, ml, mt, mc, md⟩ l 4 ≤ 200 := by omega
    have l1 : watchL ⟨ms, ml, mt, mc, md⟩ l true false = [lockP ⟨ms, ml, mt, mc, md⟩ l 4, lockP ⟨ms, ml, mt, mc, md⟩ l 4 + 1] := by simp [watchL, hxn, hy]
    have l2 : watchL ⟨ms, ml, mt, mc, md⟩ l true true = [lockP ⟨ms, ml, mt, mc, md⟩ l 4] := by simp [watchL, hxn]
    have l3 : watchL ⟨ms, ml, mt, mc, md⟩ l false false = [lockP ⟨ms, ml, mt, mc, md⟩ l 4] := by simp [watchL, hxn]
    have m1 : markP ⟨ms, ml, mt, mc, md⟩ l false false = lockP ⟨ms, ml, mt, mc, md⟩ l 4 ∧ markP ⟨ms, ml, mt, mc, md⟩ l true false = lockP ⟨ms, ml, mt, mc, md⟩ l 4 + 1 := by simp [markP, hxn, hy]
    rw [l1] at RA
    rw [l2] at RB
    rw [l3] at RC
    rw [l1, l2, l3]
    have M1 := Lib.hid m1.1; have M2 := Lib.hid m1.2
    clear hx ho hy l1 l2 l3 m1 hxn H45
    generalize lockP ⟨ms, ml, mt, mc, md⟩ l 4 = x at *
    obtain ⟨ga, ka, ea, ra⟩ := RA.out.at (by simp)
    obtain ⟨gb, kb, eb, rb⟩ := RB.out.at (by simp)
    obtain ⟨gc, kc, ec, rc⟩ := RC.out.at (by simp)
    simp only [Value.slice.injEq, true_and] at ea eb ec
    obtain ⟨rfl, rfl⟩ := ea
    obtain ⟨rfl, rfl⟩ := eb
    obtain ⟨rfl, rfl⟩ := ec
    have a0 : w6.cell? ⟨ga, 0, none⟩ = some (.int .i64 x) := ra 0 (by simp)
    have a1' : w6.cell? ⟨ga, 1, none⟩ = some (.int .i64 (x + 1)) := ra 1 (by simp)
    have b0 : w6.cell? ⟨gb, 0, none⟩ = some (.int .i64 x) := rb 0 (by simp)
    have c0 : w6.cell? ⟨gc, 0, none⟩ = some (.int .i64 x) := rc 0 (by simp)
    clear ra rb rc RA RB RC
    have hne : (x != x + 1) = true := by rw [bne_iff_ne]; omega
    go_wp2_with (first
      | (go_at_call 17; (with_reducible refine (mark_lit ms ml mt mc md l false false _).mono ?_); rw [M1.out]; rintro e w7 ⟨rfl, hk7⟩; have d0 := hk7.cell g0 (fun f => f); have d1 := hk7.cell g1 (fun f => f); have d2 := hk7.cell g2 (fun f => f); have d3 := hk7.cell g3 (fun f => f); have d4 := hk7.cell g4 (fun f => f))
      | (go_at_call 17; (with_reducible refine (mark_lit ms ml mt mc md l true false _).mono ?_); rw [M2.out]; rintro e w8 ⟨rfl, hk8⟩))
    have q0 := (hk7.trans hk8).cell a0 (fun f => f)
    have q1 := (hk7.trans hk8).cell a1' (fun f => f)
    have q2 := (hk7.trans hk8).cell b0 (fun f => f)
    have q3 := (hk7.trans hk8).cell c0 (fun f => f)
    go_region_held3 (fun w' => w'.cell? ⟨ga, 0, none⟩ = some (.int .i64 x) ∧ w'.cell? ⟨ga, 1, none⟩ = some (.int .i64 (x + 1)) ∧ w'.cell? ⟨gb, 0, none⟩ = some (.int .i64 x) ∧ w'.cell? ⟨gc, 0, none⟩ = some (.int .i64 x)) (first | exact ⟨q0, q1, q2, q3⟩ | exact r0) (first
      | (go_at_call 19; refine (told17_any _).mono ?_; rintro e w9 ⟨rfl, hk9⟩; have r0 := And.intro (hk9.cell q0 (fun f => f)) (And.intro (hk9.cell q1 (fun f => f)) (And.intro (hk9.cell q2 (fun f => f)) (hk9.cell q3 (fun f => f))))))
    go_wp2_with fail
    go_ret
    exact ⟨rfl, ((((HK.out.trans hk7).trans hk8).trans ((Keeps.refl NoS _).drew)).trans hk9)⟩
  · have hx : lockP ⟨ms, ml, mt, mc, md⟩ l 4 = -1 := by
      unfold lockP; rw [inB_not (show ¬ (0 ≤ l ∧ l < ml) by omega)]; simp
    have l1 : ∀ a b, watchL ⟨ms, ml, mt, mc, md⟩ l a b = [] := fun a b => by simp [watchL, hx]
    rw [l1, l1, l1]
    clear hx H45 RA RB RC
    have hge : ml ≤ l := by omega
    clear l1
    go_wp2_with (go_at_call 19; refine (told17_any _).mono ?_; rintro e w9 ⟨rfl, hk9⟩)
    go_ret
    exact ⟨rfl, HK.out.trans hk9⟩
end Go.Proofs.Ytiomicjfbbkbaaa

