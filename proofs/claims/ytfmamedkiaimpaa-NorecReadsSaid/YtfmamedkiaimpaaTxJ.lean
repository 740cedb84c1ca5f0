/- Package norec: Watch, Sets, New; the laws' New and Map. -/
import Derived.Test.YtfmamedkiaimpaaTxI
import Derived.Test.YtfmamedkiaimpaaLaw8
namespace Go.Proofs.Ytfmamedkiaimpaa
open Go.RowKit
def watchT (t : TxS) (pl x : Int) : TxS := if t.life = 1 then { t with V := t.V ++ [(pl, x)] } else t
/-- one more is watched -/
theorem NX.vput {w w3 : World} {a X ra wa : Nat} {v rv wv vv vv' : Value} {M : MemS} {t : TxS} {o : Obj} {k x : Int} (h : NX w a v M X ra wa rv wv vv t)
    (hown : w3.ownsRow 0 54 2 vv' (t.V.length + 1) (flat t.V ++ [.int .i64 k, .int .i64 x])) (hgr : (w.alloc o).grownBy w3 vv.ownBlock) (hob : ∀ g, vv'.ownBlock = some g → vv.ownBlock = some g ∨ g = (w.alloc o).heap.size) :
    NXP w (w3.setCell ⟨X, 9, none⟩ vv') a v M X ra wa rv wv vv { t with V := t.V ++ [(k, x)] } ∧ w3.heap[X]? = some (.cells (txC t ra wa vv) 81 (0, 0)) := by
  have T := h.tx
  have hob2 : ∀ g, vv'.ownBlock = some g → vv.ownBlock = some g ∨ w.heap.size ≤ g := fun g e => (hob g e).imp id (fun e2 => by simp at e2; omega)
  have k1 : Keeps (fun g => vv.ownBlock = some g) w w3 := ((Keeps.refl _ _).alloc _).grown hgr (fun k hk _ => hk)
  have kS : Keeps (fun g => g = X ∨ vv.ownBlock = some g) w (w3.setCell ⟨X, 9, none⟩ vv') := (k1.mono fun g e => .inr e).setCell (p := ⟨X, 9, none⟩) (fun _ => .inl rfl) _
  have hX := k1.blk T.hd (fun e => (T.o3 X e).1 rfl)
  have hXl := T.lt; have hral := T.ralt; have hwal := T.walt
  have hne : ∀ g, vv'.ownBlock = some g → g ≠ X ∧ g ≠ ra ∧ g ≠ wa := fun g e => (hob2 g e).elim (T.o3 g) (fun h => ⟨by omega, by omega, by omega⟩)
  have nX : ∀ g, g < w.heap.size → vv'.ownBlock = some g → vv.ownBlock = some g := fun g hl e => (hob2 g e).elim id (fun h => by omega)
  refine ⟨⟨rv, wv, vv', ⟨⟨?_, ?_, ?_, ?_, T.d1, T.d2, T.d3, ?_, ?_, hne⟩, ?_, ?_⟩, kS.mono (fun g e => ?_), fun g e => ?_⟩, hX⟩
  · exact blk_set hX 9 vv'
  · exact T.rs.keep kS (fun e => e.elim (fun e => T.d1 e.symm) (fun e => (T.o3 ra e).2.1 rfl)) (fun g e e2 => e2.elim (T.o1 g e).1 (T.o1 g e).2.2.2)
  · exact T.ws.imp fun _ z => z.keep kS (fun e => e.elim (fun e => T.d2 e.symm) (fun e => (T.o3 wa e).2.2 rfl)) (fun g e e2 => e2.elim (T.o2 g e).1 (T.o2 g e).2.2)
  · have : w3.ownsRow 0 54 2 vv' (t.V ++ [(k, x)]).length (flat (t.V ++ [(k, x)])) := by rw [flat_snoc, List.length_append]; exact hown
    exact owns_setCell this (fun e => (hne X e).1 rfl) _
  · exact fun g e => ⟨(T.o1 g e).1, (T.o1 g e).2.1, (T.o1 g e).2.2.1, fun e2 => (T.o1 g e).2.2.2 (nX g (T.rvlt e) e2)⟩
  · exact fun g e => ⟨(T.o2 g e).1, (T.o2 g e).2.1, fun e2 => (T.o2 g e).2.2 (nX g (T.wvlt e) e2)⟩
  · exact h.mm.keep kS (fun e => h.ap a (.inl rfl) (e.elim .inl (fun e => .inr (.inr (.inr (.inr (.inr e))))))) (fun g hg e => h.ap g (.inr hg) (e.elim .inl (fun e => .inr (.inr (.inr (.inr (.inr e)))))))
  · intro g e e2
    refine h.ap g e ?_
    rcases e2 with z | z | z | z | z | z
    · exact .inl z
    · exact .inr (.inl z)
    · exact .inr (.inr (.inl z))
    · exact .inr (.inr (.inr (.inl z)))
    · exact .inr (.inr (.inr (.inr (.inl z))))
    · exact .inr (.inr (.inr (.inr (.inr (nX g (h.lt e) z)))))
  · exact e.elim (fun e => .inl (.inl e)) (fun e => .inl (.inr (.inr (.inr (.inr (.inr e))))))
  · rcases e with z | z | z | z | z | z
    · exact .inl (.inl z)
    · exact .inl (.inr (.inl z))
    · exact .inl (.inr (.inr (.inl z)))
    · exact .inl (.inr (.inr (.inr (.inl z))))
    · exact .inl (.inr (.inr (.inr (.inr (.inl z)))))
    · exact (hob2 g z).imp (fun z => .inr (.inr (.inr (.inr (.inr z))))) id
set_option maxHeartbeats 4000000 in
set_option maxRecDepth 100000 in
theorem xWatch_any {w : World} {a X ra wa : Nat} {v rv wv vv : Value} {M : MemS} {t : TxS} (h : NX w a v M X ra wa rv wv vv t) (pl x : Int) (hb : t.V.length < 1000000) : Calls Try.prog 14 #[.pointer (some ⟨X, 0, none⟩), .int .i64 pl, .int .i64 x] w fun e w' => e = .returned (.tuple #[]) ∧ NXP w w' a v M X ra wa rv wv vv (watchT t pl x) := by
  have c10 := h.tx.c 10 (u := .int .i64 t.life) rfl
  by_cases q : t.life = 1
  · rw [show watchT t pl x = { t with V := t.V ++ [(pl, x)] } by unfold watchT; rw [if_pos q]]
    have e1 : (t.life == 1) = true := by simpa using q
    clear q
    obtain ⟨i0, hi, hz0, hz1, hz2⟩ := info_parts infoWord
    obtain ⟨p0, q0, rfl⟩ := h.tx.vsl
    have c9 := h.tx.c 9 (u := .slice p0 t.V.length q0) rfl
    have hl := h.tx.lt
    have d2 : ∀ u ∈ [Value.int .i64 pl, .int .i64 x], u.oneCell' = true := by simp [Value.oneCell']
    have b3 : t.V.length + 1 ≤ maxLen := by unfold maxLen; omega
    go_enter Try.func14, Try.ntmps14
    go_wp2_with (at_builtin; refine wpList_append_fp _ rfl _ _ 43 rfl 54 i0 (.agg #[.int .i64 0, .int .i64 0]) 2 16 Try.underlying43 hi hz0 hz1 hz2 rfl (by decide) _ t.V.length (flat t.V) rfl (h.tx.vs.alloc _) ⟨w.heap.size, 0, none⟩ 1 1 [.int .i64 pl, .int .i64 x] rfl rfl (cells_new _ _ _) d2 b3 (by omega) ?_; intro v' w3 hown hgr hob; have hput := h.vput hown hgr hob; have e1 : w3.cell? ⟨X, 9, none⟩ = some (.slice p0 t.V.length q0) := (by rw [blk_cell hput.2]; rfl); have e2 := blk_free hput.2 9; have e3 := blk_lt hput.2; obtain ⟨p', c', rfl⟩ := owns_slice hown; clear hown hgr hob c9 c10 d2 b3 hi hz0 hz1 hz2)
    go_end0
    exact ⟨rfl, hput.1⟩
  · rw [show watchT t pl x = t by unfold watchT; rw [if_neg q]]
    have e1 : (t.life == 1) = false := by simpa using q
    clear q
    go_enter Try.func14, Try.ntmps14
    go_wp2
    go_end0
    exact ⟨rfl, h.self⟩
def tx0 (th : Int) : TxS := { th := th, top := 1000, life := 0, job := 0, part := 0, i := 0, pl := 0, val := 0, now := 0, value := 0, cause := 0, stamp := 0, made := 0, took := false, phased := false, R := [], W := [], V := [] }
/-- a new attempt -/
structure TxNew (w w' : World) (X ra wa : Nat) (t : TxS) : Prop where
  tx : TxAt w' X ra wa (.slice none 0 0) (.slice none 0 0) (.slice none 0 0) t
  hX : w.heap.size ≤ X
  hr : w.heap.size ≤ ra
  hw : w.heap.size ≤ wa
  kp : Keeps NoS w w'
theorem thread_may : ∀ th : Int, th = 0 ∨ th = 1 ∨ th = 2 → ∃ z : Int, threadP ⟨3, 1, 3, 0, 4⟩ th 0 = z ∧ decide (z < 0) = false := by
  rintro th (rfl | rfl | rfl)
  · exact ⟨_, rfl, by kernel_rfl⟩
  · exact ⟨_, rfl, by kernel_rfl⟩
  · exact ⟨_, rfl, by kernel_rfl⟩
theorem rnew32 (w : World) : Calls Try.prog 64 #[.int .i64 32] w fun e w' => e = .returned (.pointer (some ⟨w.heap.size, 0, none⟩)) ∧ RSet w' w.heap.size (.slice none 0 0) 32 [] ∧ Keeps NoS w w' ∧ w.heap.size < w'.heap.size := rnew_any 32 w
theorem wnew32 (w : World) : Calls Try.prog 65 #[.int .i64 32] w fun e w' => e = .returned (.pointer (some ⟨w.heap.size, 0, none⟩)) ∧ WrAt w' w.heap.size (.slice none 0 0) 32 [] 0 ∧ Keeps NoS w w' ∧ w.heap.size < w'.heap.size := wnew_any 32 w
set_option maxHeartbeats 4000000 in
set_option maxRecDepth 100000 in
theorem xNew_any (th : Int) (hth : th = 0 ∨ th = 1 ∨ th = 2) (w : World) : Calls Try.prog 37 #[.agg #[.int .i64 3, .int .i64 1, .int .i64 3, .int .i64 0, .int .i64 4], .int .i64 th, .int .i64 32, .int .i64 32, .int .i64 1000] w fun e w' => ∃ X ra wa, e = .returned (.pointer (some ⟨X, 0, none⟩)) ∧ TxNew w w' X ra wa (tx0 th) := by
  obtain ⟨z, hz, hz0⟩ := thread_may th hth
  have HZ := Lib.hid hz
  clear hz hth
  go_enter Try.func37, Try.ntmps37
  go_upto_region 2 with (go_at_call 23; refine (threadAt_lit 3 1 3 0 4 th 0 z HZ.out _).mono ?_; rintro e w1 ⟨rfl, hk1⟩)
  have hB : MapAt w1 w.heap.size 3 1 3 0 4 := (mapAt_new w 3 1 3 0 4 31).keep hk1 (fun f => f)
  have hk1' : Keeps NoS w w1 := ((Keeps.refl NoS w).alloc _).trans hk1
  obtain ⟨B, hBe⟩ : ∃ B, w.heap.size = B := ⟨_, rfl⟩
  go_upto_region 3 with fail
  rw [hBe] at hB ⊢
  have HBm := Lib.hid (show ∀ w', Keeps NoS w1 w' → (w'.cell? ⟨B, 0, none⟩ = some (.int .i64 3) ∧ w'.cell? ⟨B, 1, none⟩ = some (.int .i64 1) ∧ w'.cell? ⟨B, 2, none⟩ = some (.int .i64 3) ∧ w'.cell? ⟨B, 3, none⟩ = some (.int .i64 0) ∧ w'.cell? ⟨B, 4, none⟩ = some (.int .i64 4)) from fun w' k => hB.keep k (fun f => f))
  clear hB hk1
  refine wp_region_held_drew (S := (fun w' => (w'.cell? ⟨B, 0, none⟩ = some (.int .i64 3) ∧ w'.cell? ⟨B, 1, none⟩ = some (.int .i64 1) ∧ w'.cell? ⟨B, 2, none⟩ = some (.int .i64 3) ∧ w'.cell? ⟨B, 3, none⟩ = some (.int .i64 0) ∧ w'.cell? ⟨B, 4, none⟩ = some (.int .i64 4)))) (by kernel_rfl) ((HBm.out _ ((Keeps.refl NoS _).drew))) (fun hHeld => ?_)
  refine wpAnyH_take (i := 0) (v := ?_) (by simp only [List.getElem?_toArray, List.getElem?_cons_succ, List.getElem?_cons_zero]; rfl) (by kernel_rfl) (by kernel_rfl) (by kernel_rfl) (by exact fun _ _ _ h => h) (Or.inl ⟨by rfl, ?_⟩) hHeld ?_
  rotate_left
  · intro w hSw; (try dsimp only at hSw); go_simp; (try with_reducible rfl)
  try simp only [Act.put, List.setIfInBounds_toArray, List.set_cons_zero, List.set_cons_succ]
  refine wpAnyH_take (i := 1) (v := ?_) (by simp only [List.getElem?_toArray, List.getElem?_cons_succ, List.getElem?_cons_zero]; rfl) (by kernel_rfl) (by kernel_rfl) (by kernel_rfl) (by exact fun _ _ _ h => h) (Or.inl ⟨by rfl, ?_⟩) hHeld ?_
  rotate_left
  · intro w hSw; (try dsimp only at hSw); go_simp; (try with_reducible rfl)
  try simp only [Act.put, List.setIfInBounds_toArray, List.set_cons_zero, List.set_cons_succ]
  refine wpAnyH_take (i := 2) (v := ?_) (by simp only [List.getElem?_toArray, List.getElem?_cons_succ, List.getElem?_cons_zero]; rfl) (by kernel_rfl) (by kernel_rfl) (by kernel_rfl) (by exact fun _ _ _ h => h) (Or.inl ⟨by rfl, ?_⟩) hHeld ?_
  rotate_left
  · intro w hSw; (try dsimp only at hSw); go_simp; (try with_reducible rfl)
  try simp only [Act.put, List.setIfInBounds_toArray, List.set_cons_zero, List.set_cons_succ]
  refine wpAnyH_take (i := 3) (v := ?_) (by simp only [List.getElem?_toArray, List.getElem?_cons_succ, List.getElem?_cons_zero]; rfl) (by kernel_rfl) (by kernel_rfl) (by kernel_rfl) (by exact fun _ _ _ h => h) (Or.inl ⟨by rfl, ?_⟩) hHeld ?_
  rotate_left
  · intro w hSw; (try dsimp only at hSw); go_simp; (try with_reducible rfl)
  try simp only [Act.put, List.setIfInBounds_toArray, List.set_cons_zero, List.set_cons_succ]
  refine wpAnyH_take (i := 5) (v := ?_) (by simp only [List.getElem?_toArray, List.getElem?_cons_succ, List.getElem?_cons_zero]; rfl) (by kernel_rfl) (by kernel_rfl) (by kernel_rfl) (by exact fun _ _ _ h => h) (Or.inl ⟨by rfl, ?_⟩) hHeld ?_
  rotate_left
  · intro w hSw; (try dsimp only at hSw); go_simp; (try with_reducible rfl)
  try simp only [Act.put, List.setIfInBounds_toArray, List.set_cons_zero, List.set_cons_succ]
  refine wpAnyH_ready (rs := [4]) (by kernel_rfl) (by simp) ?_
  refine AllReadyH.cons (by simp only [List.getElem?_toArray, List.getElem?_cons_succ, List.getElem?_cons_zero]; rfl) (fun kC hkC => ?_) AllReadyH.nil
  go_simp
  refine (rnew32 _).mono ?_; rintro e w2 ⟨rfl, hr2, hk2, hz2⟩; have hk2' := ((Keeps.refl NoS w1).drew).trans hk2
  (try go_wp2_with fail)
  refine hkC.out _ _ ((HBm.out _ hk2')) (fun hHeld => ?_)
  clear hkC kC
  try simp only [Act.put, List.setIfInBounds_toArray, List.set_cons_zero, List.set_cons_succ]
  refine wpAnyH_ready (rs := [6]) (by kernel_rfl) (by simp) ?_
  refine AllReadyH.cons (by simp only [List.getElem?_toArray, List.getElem?_cons_succ, List.getElem?_cons_zero]; rfl) (fun kC hkC => ?_) AllReadyH.nil
  go_simp
  refine (wnew32 _).mono ?_; rintro e w3 ⟨rfl, hw3, hk3, hz3⟩; have hk3' := hk2'.trans hk3
  (try go_wp2_with fail)
  refine hkC.out _ _ ((HBm.out _ hk3')) (fun hHeld => ?_)
  clear hkC kC
  try simp only [Act.put, List.setIfInBounds_toArray, List.set_cons_zero, List.set_cons_succ]
  refine wpAnyH_take (i := 7) (v := ?_) (by simp only [List.getElem?_toArray, List.getElem?_cons_succ, List.getElem?_cons_zero]; rfl) (by kernel_rfl) (by kernel_rfl) (by kernel_rfl) (by exact fun _ _ _ h => h) (Or.inl ⟨by rfl, ?_⟩) hHeld ?_
  rotate_left
  · intro w hSw; (try dsimp only at hSw); go_simp; (try with_reducible rfl)
  try simp only [Act.put, List.setIfInBounds_toArray, List.set_cons_zero, List.set_cons_succ]
  refine wpAnyH_ready (rs := [8]) (by kernel_rfl) (by simp) ?_
  refine AllReadyH.cons (by simp only [List.getElem?_toArray, List.getElem?_cons_succ, List.getElem?_cons_zero]; rfl) (fun kC hkC => ?_) AllReadyH.nil
  go_simp
  refine hkC.out _ _ ((HBm.out _ (hk3'.alloc _))) (fun hHeld => ?_)
  clear hkC kC
  try simp only [Act.put, List.setIfInBounds_toArray, List.set_cons_zero, List.set_cons_succ]
  refine wpAnyH_take (i := 9) (v := ?_) (by simp only [List.getElem?_toArray, List.getElem?_cons_succ, List.getElem?_cons_zero]; rfl) (by kernel_rfl) (by kernel_rfl) (by kernel_rfl) (by exact fun _ _ _ h => h) (Or.inl ⟨by rfl, ?_⟩) hHeld ?_
  rotate_left
  · intro w hSw; (try dsimp only at hSw); go_simp; (try with_reducible rfl)
  try simp only [Act.put, List.setIfInBounds_toArray, List.set_cons_zero, List.set_cons_succ]
  refine wpAnyH_done (by kernel_rfl) ?_ _
  go_wp2_with fail
  go_ret
  have hs2 := hk2'.size
  have hs1 := hk1'.size
  have kk := (Keeps.refl NoS w3).alloc (.cells (txC (tx0 th) w1.drew.heap.size w2.heap.size (.slice none 0 0)) 81)
  refine ⟨w3.heap.size, w1.drew.heap.size, w2.heap.size, rfl, ⟨heap_alloc_new _ _, (hr2.keep hk3 (fun f => f) (fun _ _ f => f)).keep kk (fun f => f) (fun _ _ f => f), ⟨_, hw3.keep kk (fun f => f) (fun _ _ f => f)⟩, World.ownsRow_nil _ _ _ _, by omega, by omega, by omega, fun g e => by simp [Value.ownBlock] at e, fun g e => by simp [Value.ownBlock] at e, fun g e => by simp [Value.ownBlock] at e⟩, ?_, ?_, ?_, (hk1'.trans hk3').trans kk⟩
  all_goals first
    | omega
    | (simp; omega)
theorem map16_any (w : World) : Calls Try.prog 9 #[] w fun e w' => e = .returned (.agg #[.int .i64 3, .int .i64 1, .int .i64 3, .int .i64 0, .int .i64 4]) ∧ Keeps NoS w w' := by
  go_enter Try.func9, Try.ntmps9
  go_wp2
  refine bodyPost_ret (v := .agg #[.int .i64 3, .int .i64 1, .int .i64 3, .int .i64 0, .int .i64 4]) (by simp [results, Try.results9, go_sem]) rfl ⟨rfl, ?_⟩
  exact (Keeps.refl NoS w).alloc _
theorem TxNew.after {w w1 w' : World} {X ra wa : Nat} {t : TxS} (k : Keeps NoS w w1) (h : TxNew w1 w' X ra wa t) : TxNew w w' X ra wa t := ⟨h.tx, Nat.le_trans k.size h.hX, Nat.le_trans k.size h.hr, Nat.le_trans k.size h.hw, k.trans h.kp⟩
theorem xNew16_any (th cl : Int) (hth : th = 0 ∨ th = 1 ∨ th = 2) (w : World) : Calls Try.prog 11 #[.int .i64 th, .int .i64 cl] w fun e w' => ∃ X ra wa, e = .returned (.pointer (some ⟨X, 0, none⟩)) ∧ TxNew w w' X ra wa (tx0 th) := by
  go_enter Try.func11, Try.ntmps11
  go_wp2_with (first
    | (go_at_call 9; refine (map16_any _).mono ?_; rintro e w1 ⟨rfl, hk1⟩)
    | (go_at_call 37; refine (xNew_any th hth _).mono ?_; rintro e w2 ⟨X, ra, wa, rfl, hn⟩))
  go_ret
  exact ⟨X, ra, wa, rfl, hn.after hk1⟩
set_option maxHeartbeats 4000000 in
set_option maxRecDepth 100000 in
theorem xSets_any {w : World} {a X ra wa : Nat} {v rv wv vv : Value} {M : MemS} {t : TxS} (h : NX w a v M X ra wa rv wv vv t) : Calls Try.prog 17 #[.pointer (some ⟨X, 0, none⟩)] w fun e w' => ∃ pr cr u, e = .returned (.tuple #[.slice pr t.R.length cr, u]) ∧ w'.ownsRow 0 3 1 (.slice pr t.R.length cr) t.R.length (keysOf t.R) ∧ w'.ownsRow 0 54 2 u t.W.length (flat t.W) ∧ (∀ g, u.ownBlock = some g → w.heap.size ≤ g) ∧ Keeps NoS w w' := by
  have c7 := h.tx.c 7 (u := .pointer (some ⟨ra, 0, none⟩)) rfl
  have c8 := h.tx.c 8 (u := .pointer (some ⟨wa, 0, none⟩)) rfl
  have hl := h.tx.lt
  go_enter Try.func17, Try.ntmps17
  go_upto_region 3 with fail
  have HS := Lib.hid (show ∀ w', Keeps NoS w w' → w'.cell? ⟨X, 7, none⟩ = some (.pointer (some ⟨ra, 0, none⟩)) ∧ w'.cell? ⟨X, 8, none⟩ = some (.pointer (some ⟨wa, 0, none⟩)) from fun w' k => ⟨k.cell c7 (fun f => f), k.cell c8 (fun f => f)⟩)
  clear c7 c8
  have hd := (Keeps.refl NoS w).drew
  refine wp_region_held_drew (S := (fun w' => w'.cell? ⟨X, 7, none⟩ = some (.pointer (some ⟨ra, 0, none⟩)) ∧ w'.cell? ⟨X, 8, none⟩ = some (.pointer (some ⟨wa, 0, none⟩)))) (by kernel_rfl) ((HS.out _ hd)) (fun hHeld => ?_)
  refine wpAnyH_take (i := 0) (v := ?_) (by simp only [List.getElem?_toArray, List.getElem?_cons_succ, List.getElem?_cons_zero]; rfl) (by kernel_rfl) (by kernel_rfl) (by kernel_rfl) (by exact fun _ _ _ h => h) (Or.inl ⟨by rfl, ?_⟩) hHeld ?_
  rotate_left
  · intro w hSw; (try dsimp only at hSw); go_simp; (try with_reducible rfl)
  try simp only [Act.put, List.setIfInBounds_toArray, List.set_cons_zero, List.set_cons_succ]
  refine wpAnyH_take (i := 1) (v := ?_) (by simp only [List.getElem?_toArray, List.getElem?_cons_succ, List.getElem?_cons_zero]; rfl) (by kernel_rfl) (by kernel_rfl) (by kernel_rfl) (by exact fun _ _ _ h => h) (Or.inl ⟨by rfl, ?_⟩) hHeld ?_
  rotate_left
  · intro w hSw; (try dsimp only at hSw); go_simp; (try with_reducible rfl)
  try simp only [Act.put, List.setIfInBounds_toArray, List.set_cons_zero, List.set_cons_succ]
  refine wpAnyH_take (i := 2) (v := ?_) (by simp only [List.getElem?_toArray, List.getElem?_cons_succ, List.getElem?_cons_zero]; rfl) (by kernel_rfl) (by kernel_rfl) (by kernel_rfl) (by exact fun _ _ _ h => h) (Or.inl ⟨by rfl, ?_⟩) hHeld ?_
  rotate_left
  · intro w hSw; (try dsimp only at hSw); go_simp; (try with_reducible rfl)
  try simp only [Act.put, List.setIfInBounds_toArray, List.set_cons_zero, List.set_cons_succ]
  refine wpAnyH_take (i := 3) (v := ?_) (by simp only [List.getElem?_toArray, List.getElem?_cons_succ, List.getElem?_cons_zero]; rfl) (by kernel_rfl) (by kernel_rfl) (by kernel_rfl) (by exact fun _ _ _ h => h) (Or.inl ⟨by rfl, ?_⟩) hHeld ?_
  rotate_left
  · intro w hSw; (try dsimp only at hSw); go_simp; (try with_reducible rfl)
  try simp only [Act.put, List.setIfInBounds_toArray, List.set_cons_zero, List.set_cons_succ]
  refine wpAnyH_take (i := 5) (v := ?_) (by simp only [List.getElem?_toArray, List.getElem?_cons_succ, List.getElem?_cons_zero]; rfl) (by kernel_rfl) (by kernel_rfl) (by kernel_rfl) (by exact fun _ _ _ h => h) (Or.inl ⟨by rfl, ?_⟩) hHeld ?_
  rotate_left
  · intro w hSw; (try dsimp only at hSw); go_simp; (try with_reducible rfl)
  try simp only [Act.put, List.setIfInBounds_toArray, List.set_cons_zero, List.set_cons_succ]
  refine wpAnyH_take (i := 6) (v := ?_) (by simp only [List.getElem?_toArray, List.getElem?_cons_succ, List.getElem?_cons_zero]; rfl) (by kernel_rfl) (by kernel_rfl) (by kernel_rfl) (by exact fun _ _ _ h => h) (Or.inl ⟨by rfl, ?_⟩) hHeld ?_
  rotate_left
  · intro w hSw; (try dsimp only at hSw); go_simp; (try with_reducible rfl)
  try simp only [Act.put, List.setIfInBounds_toArray, List.set_cons_zero, List.set_cons_succ]
  refine wpAnyH_take (i := 7) (v := ?_) (by simp only [List.getElem?_toArray, List.getElem?_cons_succ, List.getElem?_cons_zero]; rfl) (by kernel_rfl) (by kernel_rfl) (by kernel_rfl) (by exact fun _ _ _ h => h) (Or.inl ⟨by rfl, ?_⟩) hHeld ?_
  rotate_left
  · intro w hSw; (try dsimp only at hSw); go_simp; (try with_reducible rfl)
  try simp only [Act.put, List.setIfInBounds_toArray, List.set_cons_zero, List.set_cons_succ]
  refine wpAnyH_take (i := 8) (v := ?_) (by simp only [List.getElem?_toArray, List.getElem?_cons_succ, List.getElem?_cons_zero]; rfl) (by kernel_rfl) (by kernel_rfl) (by kernel_rfl) (by exact fun _ _ _ h => h) (Or.inl ⟨by rfl, ?_⟩) hHeld ?_
  rotate_left
  · intro w hSw; (try dsimp only at hSw); go_simp; (try with_reducible rfl)
  try simp only [Act.put, List.setIfInBounds_toArray, List.set_cons_zero, List.set_cons_succ]
  refine wpAnyH_ready (rs := [4]) (by kernel_rfl) (by simp) ?_
  refine AllReadyH.cons (by simp only [List.getElem?_toArray, List.getElem?_cons_succ, List.getElem?_cons_zero]; rfl) (fun kC hkC => ?_) AllReadyH.nil
  go_simp
  refine (rkeys_any ra rv 32 t.R _ (h.no hd).tx.rs).mono ?_; rintro e w1 ⟨ku, rfl, hown, hnew, hk⟩; have hk1 := hd.trans hk; have h1 := h.no hk1; obtain ⟨asked, hws⟩ := h1.tx.ws; obtain ⟨pr, cr, rfl⟩ := owns_slice hown
  (try go_wp2_with fail)
  refine hkC.out _ _ ((HS.out _ hk1)) (fun hHeld => ?_)
  clear hkC kC
  try simp only [Act.put, List.setIfInBounds_toArray, List.set_cons_zero, List.set_cons_succ]
  refine wpAnyH_ready (rs := [9]) (by kernel_rfl) (by simp) ?_
  refine AllReadyH.cons (by simp only [List.getElem?_toArray, List.getElem?_cons_succ, List.getElem?_cons_zero]; rfl) (fun kC hkC => ?_) AllReadyH.nil
  go_simp
  refine (wlist_any wa wv 32 asked t.W _ hws).mono ?_; rintro e w2 ⟨u, rfl, hown2, hnew2, hk2⟩; have hk3 := hk1.trans hk2
  (try go_wp2_with fail)
  refine hkC.out _ _ ((HS.out _ hk3)) (fun hHeld => ?_)
  clear hkC kC
  try simp only [Act.put, List.setIfInBounds_toArray, List.set_cons_zero, List.set_cons_succ]
  refine wpAnyH_take (i := 10) (v := ?_) (by simp only [List.getElem?_toArray, List.getElem?_cons_succ, List.getElem?_cons_zero]; rfl) (by kernel_rfl) (by kernel_rfl) (by kernel_rfl) (by exact fun _ _ _ h => h) (Or.inl ⟨by rfl, ?_⟩) hHeld ?_
  rotate_left
  · intro w hSw; (try dsimp only at hSw); go_simp; (try with_reducible rfl)
  try simp only [Act.put, List.setIfInBounds_toArray, List.set_cons_zero, List.set_cons_succ]
  refine wpAnyH_take (i := 11) (v := ?_) (by simp only [List.getElem?_toArray, List.getElem?_cons_succ, List.getElem?_cons_zero]; rfl) (by kernel_rfl) (by kernel_rfl) (by kernel_rfl) (by exact fun _ _ _ h => h) (Or.inl ⟨by rfl, ?_⟩) hHeld ?_
  rotate_left
  · intro w hSw; (try dsimp only at hSw); go_simp; (try with_reducible rfl)
  try simp only [Act.put, List.setIfInBounds_toArray, List.set_cons_zero, List.set_cons_succ]
  refine wpAnyH_done (by kernel_rfl) ?_ _
  go_wp2_with fail
  go_ret2
  exact ⟨pr, cr, u, rfl, hk2.owns hown (fun _ _ f => f), hown2, fun g e => Nat.le_trans hk1.size (hnew2 g e), hk3⟩
end Go.Proofs.Ytfmamedkiaimpaa
