/- A crowd's step, who holds it (the walk). -/
import Derived.Test.YtchgfdfdkcijnaaCrowd
import Derived.Test.YtchgfdfdkcijnaaRwTake
import Derived.Test.YtchgfdfdkcijnaaHeldT
import Derived.Deep.LoopGhost
import Derived.Deep.DeepCutAuto
namespace Go.Proofs.Ytchgfdfdkcijnaa
open Go.RowKit
/-- a memory, a map, a crowd -/
structure CW (w wr : World) (a : Nat) (v : Value) (B C : Nat) (M : MemS) (f : Nat → HandS) (o : Nat → Bool) (n : Nat → Nat) : Prop where
  hm : MemAt wr a v M
  kp : Keeps (fun i => own2m a v i ∨ i = C) w wr
  mp : MapAt wr B 2 2 4 0 2
  cr : CrowdAt wr C f o n
structure OrdC (a : Nat) (v : Value) (B C : Nat) : Prop where
  ow : ∀ i, own2m a v i → i < B
  cb : C < B
  nc : ¬ own2m a v C
section
variable {w wr w' : World} {a B C : Nat} {v : Value} {M M' : MemS} {f : Nat → HandS} {o : Nat → Bool} {n : Nat → Nat} {S : Nat → Prop} {t : Nat}
theorem CW.no (h : CW w wr a v B C M f o n) (k : Keeps NoS wr w') : CW w w' a v B C M f o n :=
  ⟨h.hm.keep k (fun f => f) (fun _ _ f => f), h.kp.trans k.no, h.mp.keep k (fun f => f), h.cr.keep k (fun f => f)⟩
theorem CW.turn (h : CW w wr a v B C M f o n) (q : OrdC a v B C) (hm : MemAt w' a v M') (k : Keeps (own2m a v) wr w') : CW w w' a v B C M' f o n :=
  ⟨hm, h.kp.trans (k.mono (fun _ e => .inl e)), h.mp.keep k (fun e => by have := q.ow _ e; omega), h.cr.keep k q.nc⟩
theorem CW.self (h : CW w wr a v B C M f o n) (q : OrdC a v B C) (k : Keeps (just C) wr w') : MemAt w' a v M ∧ Keeps (fun i => own2m a v i ∨ i = C) w w' ∧ MapAt w' B 2 2 4 0 2 :=
  ⟨h.hm.keep k (fun e => q.nc (.inl e.symm)) (fun g hg e => q.nc (.inr (by have e' : g = C := e; rw [← e']; exact hg))), h.kp.trans (k.mono (fun _ e => .inr e)), h.mp.keep k (fun e => by have e' : B = C := e; have := q.cb; omega)⟩
theorem CW.hand (h : CW w wr a v B C M f o n) (q : OrdC a v B C) (ht : t < 4) (x : HandS) : CW w (setH wr C t x) a v B C M (hput f t x) o n := by
  obtain ⟨h1, h2, h3⟩ := h.self q (keeps_setH wr C t x)
  exact ⟨h1, h2, h3, h.cr.setH ht x⟩
theorem CW.out (h : CW w wr a v B C M f o n) (q : OrdC a v B C) (ht : t < 4) (b : Bool) : CW w (wr.setCell ⟨C, 20 + t, none⟩ (.bool b)) a v B C M f (bput o t b) n := by
  obtain ⟨h1, h2, h3⟩ := h.self q (keeps_cell wr C (20 + t) (.bool b))
  exact ⟨h1, h2, h3, h.cr.setO ht b⟩
theorem CW.count (h : CW w wr a v B C M f o n) (q : OrdC a v B C) (ht : t < 4) : CW w (wr.setCell ⟨C, 24 + t, none⟩ (.int .i64 ((n t : Nat) + 1 : Int))) a v B C M f o (nput n t) := by
  obtain ⟨h1, h2, h3⟩ := h.self q (keeps_cell wr C (24 + t) (.int .i64 ((n t : Nat) + 1 : Int)))
  exact ⟨h1, h2, h3, h.cr.setN ht⟩
theorem CW.congr {g : Nat → HandS} {p : Nat → Bool} {m : Nat → Nat} (h : CW w wr a v B C M f o n) (e : ∀ t, t < 4 → f t = g t) (e2 : ∀ t, t < 4 → o t = p t) (e3 : ∀ t, t < 4 → n t = m t) : CW w wr a v B C M g p m := ⟨h.hm, h.kp, h.mp, h.cr.congr e e2 e3⟩
end
theorem first_wrap (k : Nat) (h : k < 1000000) : IntKind.i64.wrap ((k : Int) + 1) = (k : Int) + 1 := IntWalk.i64_in _ (by omega)
theorem bput_id {o : Nat → Bool} {t : Nat} {b : Bool} (h : o t = b) : ∀ j, j < 4 → o j = bput o t b j := fun j _ => by
  by_cases e : j = t
  · subst e; rw [bput_same, h]
  · rw [bput_ne e]
theorem bput_twice {o : Nat → Bool} {t : Nat} {a b : Bool} : bput (bput o t a) t b = bput o t b := by
  funext k
  unfold bput
  by_cases e : k = t
  · rw [if_pos e, if_pos e]
  · rw [if_neg e, if_neg e, if_neg e]
set_option maxHeartbeats 40000000 in
set_option maxRecDepth 100000 in
theorem step10_any (C a : Nat) (v : Value) (M : MemS) (f : Nat → HandS) (o : Nat → Bool) (n : Nat → Nat) (t : Nat) (ht : t < 4) (read leave : Bool) (w : World) (hC : CrowdAt w C f o n) (hA : MemAt w a v M) (hl48 : M.L.length = 48) (hnc : ¬ own2m a v C) (hso : (f t).s = 0 ∨ (f t).s = 9 → o t = false) (hnb : n t < 1000000) :
    Calls Try.prog 38 #[.pointer (some ⟨C, 0, none⟩), .agg #[.int .i64 2, .int .i64 2, .int .i64 4, .int .i64 0, .int .i64 2], .pointer (some ⟨a, 0, none⟩), .int .i64 t, .bool read, .bool leave] w fun e w' => e = .returned (.tuple #[]) ∧ MemAt w' a v (cRes M f o t read leave).1 ∧ CrowdAt w' C (hput f t (cRes M f o t read leave).2) (cO M f o t read leave) (cN M f o n t read leave) ∧ Keeps (fun i => own2m a v i ∨ i = C) w w' := by
  have hb := mapAt_new w 2 2 4 0 2 25
  have hk0 := (Keeps.refl NoS w).alloc (.cells #[.int .i64 2, .int .i64 2, .int .i64 4, .int .i64 0, .int .i64 2] 25)
  have hord : OrdC a v w.heap.size C := ⟨fun i e => by
    rcases e with e | e
    · rw [e]; exact blk_lt hA.hd
    · exact hA.own_lt e, hC.lt, hnc⟩
  have hcw : CW w (w.alloc (.cells #[.int .i64 2, .int .i64 2, .int .i64 4, .int .i64 0, .int .i64 2] 25)) a v w.heap.size C M f o n := ⟨hA.keep hk0 (fun f => f) (fun _ _ f => f), hk0.no, hb, hC.keep hk0 (fun f => f)⟩
  obtain ⟨B, hB⟩ : ∃ B, w.heap.size = B := ⟨_, rfl⟩
  rw [hB] at hord hcw
  have ht1 : (0 : Int) ≤ (t : Int) := by omega
  have ht2 : (t : Int) < 4 := by omega
  obtain ⟨h0, hh0⟩ : ∃ z, f t = z := ⟨_, rfl⟩
  obtain ⟨t1, l1, s1, r1, x1⟩ := h0
  rw [hh0] at hso
  dsimp only at hso
  obtain ⟨ot, hot⟩ : ∃ z, o t = z := ⟨_, rfl⟩
  rw [hot] at hso
  have HX := Lib.hid hcw; have HO := Lib.hid hord; have HBE := Lib.hid hB; have HSO := Lib.hid hso; have HF := Lib.hid hh0; have HOT := Lib.hid hot; have HNB := Lib.hid hnb; have HL := Lib.hid hl48
  clear hb hk0 hord hcw hB hso hh0 hot hC hA hnc hnb hl48
  go_enter Try.func38, Try.ntmps38
  go_upto_region 1 with fail
  (try rw [HBE.out])
  generalize w.alloc (.cells #[.int .i64 2, .int .i64 2, .int .i64 4, .int .i64 0, .int .i64 2] 25) = wa at *
  by_cases e0 : s1 = 0
  · subst e0
    have hof := HSO.out (.inl rfl)
    subst hof
    have hc : cH0 f t read = ⟨t, 0, 0, read, 0⟩ := if_pos (by rw [HF.out])
    have hco : cOut f o t read leave = false := by unfold cOut; rw [HOT.out, hc]; rfl
    have HH := Lib.hid hc; have HCO := Lib.hid hco
    clear hc hco
    obtain ⟨x0, x1', x2', x3, x4⟩ := HX.out.cr.hx.at ht HF.out
    obtain ⟨f0, f1, f2, f3, f4⟩ := HX.out.cr.hx.frees t
    have y0 := HX.out.cr.oc ht
    have y1 := HX.out.cr.lt
    have y2 := HX.out.cr.free (20 + t)
    rw [HOT.out] at y0
    have hP := HX.out.hand HO.out ht ⟨t, 0, 0, read, 0⟩
    unfold setH at hP
    dsimp only at hP
    have HX3 := Lib.hid hP
    clear hP
    go_upto_region 3 with fail
    generalize ((((wa.setCell ⟨C, t * 5, none⟩ (.int .i64 t)).setCell ⟨C, t * 5 + 1, none⟩ (.int .i64 0)).setCell ⟨C, t * 5 + 2, none⟩ (.int .i64 0)).setCell ⟨C, t * 5 + 3, none⟩ (.bool read)).setCell ⟨C, t * 5 + 4, none⟩ (.int .i64 0) = wc at *
    clear x0 x1' x2' x3 x4 f0 f1 f2 f3 f4 y0 y1 y2
    have HFT := Lib.hid (hput_same (f := f) (t := t) (x := ⟨t, 0, 0, read, 0⟩)); have HOD := Lib.hid HOT.out
    clear HX
    obtain ⟨x0, x1', x2', x3, x4⟩ := HX3.out.cr.hx.at ht HFT.out
    have y0 := HX3.out.cr.oc ht
    rw [HOD.out] at y0
    have xl := HX3.out.cr.lt
    obtain ⟨m0, m1, m2, m3, m4⟩ := mapCs HX3.out.mp
    obtain ⟨M', h', hd⟩ : ∃ M' h', wTakeI M ⟨t, 0, 0, read, 0⟩ = (M', h') := ⟨_, _, rfl⟩
    obtain ⟨t3, l3, s3, r3, x3'⟩ := h'
    have hres : cRes M f o t read leave = (M', ⟨t3, l3, s3, r3, x3'⟩) := by unfold cRes; rw [HCO.out]; rw [if_neg (by decide), HH.out]; exact hd
    have hO : cO M f o t read leave = bput o t false := by unfold cO; rw [HCO.out]; rfl
    have hN : cN M f o n t read leave = n := by unfold cN; rw [HCO.out]; rfl
    have HD := Lib.hid hd; have HRES := Lib.hid hres; have HOO := Lib.hid hO; have HNN := Lib.hid hN
    clear hd hres hO hN
    go_wp2_with fail
    have hXd := HX3.out.no ((Keeps.refl NoS _).drew)
    refine wp_region_kept_drew 14 (fun w' => (w'.cell? ⟨C, t * 5, none⟩ = some (.int .i64 t) ∧ w'.cell? ⟨C, t * 5 + 1, none⟩ = some (.int .i64 0) ∧ w'.cell? ⟨C, t * 5 + 2, none⟩ = some (.int .i64 0) ∧ w'.cell? ⟨C, t * 5 + 3, none⟩ = some (.bool read) ∧ w'.cell? ⟨C, t * 5 + 4, none⟩ = some (.int .i64 0)) ∧ (w'.cell? ⟨B, 0, none⟩ = some (.int .i64 2) ∧ w'.cell? ⟨B, 1, none⟩ = some (.int .i64 2) ∧ w'.cell? ⟨B, 2, none⟩ = some (.int .i64 4) ∧ w'.cell? ⟨B, 3, none⟩ = some (.int .i64 0) ∧ w'.cell? ⟨B, 4, none⟩ = some (.int .i64 2))) 14 (fun _ => True) (by kernel_rfl) (⟨⟨x0, x1', x2', x3, x4⟩, ⟨m0, m1, m2, m3, m4⟩⟩) (trivial) (fun hK => ?_)
    refine wpAnyK_take1 (i := 0) (v := ?_) (by simp only [List.getElem?_toArray, List.getElem?_cons_succ, List.getElem?_cons_zero]; rfl) (by kernel_rfl) (by kernel_rfl) (by kernel_rfl) (by kernel_rfl) (by kernel_rfl) (by kernel_rfl) (by exact fun _ _ _ h => h) (Or.inl ⟨by rfl, ?_⟩) (hK _) ?_
    rotate_left
    · intro w hSw; (try dsimp only at hSw); go_simp; (try with_reducible rfl)
    try simp only [Act.put, List.setIfInBounds_toArray, List.set_cons_zero, List.set_cons_succ]
    refine wpAnyK_take1 (i := 1) (v := ?_) (by simp only [List.getElem?_toArray, List.getElem?_cons_succ, List.getElem?_cons_zero]; rfl) (by kernel_rfl) (by kernel_rfl) (by kernel_rfl) (by kernel_rfl) (by kernel_rfl) (by kernel_rfl) (by exact fun _ _ _ h => h) (Or.inl ⟨by rfl, ?_⟩) (hK _) ?_
    rotate_left
    · intro w hSw; (try dsimp only at hSw); go_simp; (try with_reducible rfl)
    try simp only [Act.put, List.setIfInBounds_toArray, List.set_cons_zero, List.set_cons_succ]
    refine wpAnyK_take1 (i := 2) (v := ?_) (by simp only [List.getElem?_toArray, List.getElem?_cons_succ, List.getElem?_cons_zero]; rfl) (by kernel_rfl) (by kernel_rfl) (by kernel_rfl) (by kernel_rfl) (by kernel_rfl) (by kernel_rfl) (by exact fun _ _ _ h => h) (Or.inl ⟨by rfl, ?_⟩) (hK _) ?_
    rotate_left
    · intro w hSw; (try dsimp only at hSw); go_simp; (try with_reducible rfl)
    try simp only [Act.put, List.setIfInBounds_toArray, List.set_cons_zero, List.set_cons_succ]
    refine wpAnyK_take1 (i := 3) (v := ?_) (by simp only [List.getElem?_toArray, List.getElem?_cons_succ, List.getElem?_cons_zero]; rfl) (by kernel_rfl) (by kernel_rfl) (by kernel_rfl) (by kernel_rfl) (by kernel_rfl) (by kernel_rfl) (by exact fun _ _ _ h => h) (Or.inl ⟨by rfl, ?_⟩) (hK _) ?_
    rotate_left
    · intro w hSw; (try dsimp only at hSw); go_simp; (try with_reducible rfl)
    try simp only [Act.put, List.setIfInBounds_toArray, List.set_cons_zero, List.set_cons_succ]
    refine wpAnyK_take1 (i := 4) (v := ?_) (by simp only [List.getElem?_toArray, List.getElem?_cons_succ, List.getElem?_cons_zero]; rfl) (by kernel_rfl) (by kernel_rfl) (by kernel_rfl) (by kernel_rfl) (by kernel_rfl) (by kernel_rfl) (by exact fun _ _ _ h => h) (Or.inl ⟨by rfl, ?_⟩) (hK _) ?_
    rotate_left
    · intro w hSw; (try dsimp only at hSw); go_simp; (try with_reducible rfl)
    try simp only [Act.put, List.setIfInBounds_toArray, List.set_cons_zero, List.set_cons_succ]
    refine wpAnyK_take1 (i := 5) (v := ?_) (by simp only [List.getElem?_toArray, List.getElem?_cons_succ, List.getElem?_cons_zero]; rfl) (by kernel_rfl) (by kernel_rfl) (by kernel_rfl) (by kernel_rfl) (by kernel_rfl) (by kernel_rfl) (by exact fun _ _ _ h => h) (Or.inl ⟨by rfl, ?_⟩) (hK _) ?_
    rotate_left
    · intro w hSw; (try dsimp only at hSw); go_simp; (try with_reducible rfl)
    try simp only [Act.put, List.setIfInBounds_toArray, List.set_cons_zero, List.set_cons_succ]
    refine wpAnyK_take1 (i := 6) (v := ?_) (by simp only [List.getElem?_toArray, List.getElem?_cons_succ, List.getElem?_cons_zero]; rfl) (by kernel_rfl) (by kernel_rfl) (by kernel_rfl) (by kernel_rfl) (by kernel_rfl) (by kernel_rfl) (by exact fun _ _ _ h => h) (Or.inl ⟨by rfl, ?_⟩) (hK _) ?_
    rotate_left
    · intro w hSw; (try dsimp only at hSw); go_simp; (try with_reducible rfl)
    try simp only [Act.put, List.setIfInBounds_toArray, List.set_cons_zero, List.set_cons_succ]
    refine wpAnyK_take1 (i := 7) (v := ?_) (by simp only [List.getElem?_toArray, List.getElem?_cons_succ, List.getElem?_cons_zero]; rfl) (by kernel_rfl) (by kernel_rfl) (by kernel_rfl) (by kernel_rfl) (by kernel_rfl) (by kernel_rfl) (by exact fun _ _ _ h => h) (Or.inl ⟨by rfl, ?_⟩) (hK _) ?_
    rotate_left
    · intro w hSw; (try dsimp only at hSw); go_simp; (try with_reducible rfl)
    try simp only [Act.put, List.setIfInBounds_toArray, List.set_cons_zero, List.set_cons_succ]
    refine wpAnyK_take1 (i := 8) (v := ?_) (by simp only [List.getElem?_toArray, List.getElem?_cons_succ, List.getElem?_cons_zero]; rfl) (by kernel_rfl) (by kernel_rfl) (by kernel_rfl) (by kernel_rfl) (by kernel_rfl) (by kernel_rfl) (by exact fun _ _ _ h => h) (Or.inl ⟨by rfl, ?_⟩) (hK _) ?_
    rotate_left
    · intro w hSw; (try dsimp only at hSw); go_simp; (try with_reducible rfl)
    try simp only [Act.put, List.setIfInBounds_toArray, List.set_cons_zero, List.set_cons_succ]
    refine wpAnyK_take1 (i := 9) (v := ?_) (by simp only [List.getElem?_toArray, List.getElem?_cons_succ, List.getElem?_cons_zero]; rfl) (by kernel_rfl) (by kernel_rfl) (by kernel_rfl) (by kernel_rfl) (by kernel_rfl) (by kernel_rfl) (by exact fun _ _ _ h => h) (Or.inl ⟨by rfl, ?_⟩) (hK _) ?_
    rotate_left
    · intro w hSw; (try dsimp only at hSw); go_simp; (try with_reducible rfl)
    try simp only [Act.put, List.setIfInBounds_toArray, List.set_cons_zero, List.set_cons_succ]
    refine wpAnyK_takeT (i := 11) (v := ?_) (by simp only [List.getElem?_toArray, List.getElem?_cons_succ, List.getElem?_cons_zero]; rfl) (by kernel_rfl) (by kernel_rfl) (by kernel_rfl) (by kernel_rfl) (by kernel_rfl) (by exact fun _ _ _ h => h) (Or.inl ⟨by rfl, ?_⟩) (hK _) ?_
    rotate_left
    · intro w hSw; (try dsimp only at hSw); go_simp; (try with_reducible rfl)
    try simp only [Act.put, List.setIfInBounds_toArray, List.set_cons_zero, List.set_cons_succ]
    refine wpAnyK_takeT (i := 12) (v := ?_) (by simp only [List.getElem?_toArray, List.getElem?_cons_succ, List.getElem?_cons_zero]; rfl) (by kernel_rfl) (by kernel_rfl) (by kernel_rfl) (by kernel_rfl) (by kernel_rfl) (by exact fun _ _ _ h => h) (Or.inl ⟨by rfl, ?_⟩) (hK _) ?_
    rotate_left
    · intro w hSw; (try dsimp only at hSw); go_simp; (try with_reducible rfl)
    try simp only [Act.put, List.setIfInBounds_toArray, List.set_cons_zero, List.set_cons_succ]
    refine wpAnyK_one (i := 10) (by kernel_rfl) (by simp only [List.getElem?_toArray, List.getElem?_cons_succ, List.getElem?_cons_zero]; rfl) (fun kC hkC => ?_)
    go_simp
    refine (rwtake8_any t 0 0 read 0 a v M _ hXd.hm HL.out).mono ?_; rw [HD.out]; unfold handV; dsimp only; rintro e w5 ⟨rfl, hm, hk⟩; have hX5 := hXd.turn HO.out hm hk; have m5 := mapCs hX5.mp; have hc5 := hX5.cr.hx.at ht HFT.out; obtain ⟨F0, F1, F2, F3, F4⟩ := hX5.cr.hx.frees t; have hl5 := hX5.cr.lt; have hP := hX5.hand HO.out ht ⟨t3, l3, s3, r3, x3'⟩; unfold setH at hP; dsimp only at hP; have HP := Lib.hid hP; clear hP hm hk
    (try go_wp2_with fail)
    refine hkC.out _ _ (⟨hc5, m5⟩) (trivial) (fun hK => ?_)
    clear hkC kC
    try simp only [Act.put, List.setIfInBounds_toArray, List.set_cons_zero, List.set_cons_succ]
    refine wpAnyK_take1 (i := 13) (v := ?_) (by simp only [List.getElem?_toArray, List.getElem?_cons_succ, List.getElem?_cons_zero]; rfl) (by kernel_rfl) (by kernel_rfl) (by kernel_rfl) (by kernel_rfl) (by kernel_rfl) (by kernel_rfl) (by exact fun _ _ _ h => h) (Or.inl ⟨by rfl, ?_⟩) (hK _) ?_
    rotate_left
    · intro w hSw; (try dsimp only at hSw); go_simp; (try with_reducible rfl)
    try simp only [Act.put, List.setIfInBounds_toArray, List.set_cons_zero, List.set_cons_succ]
    refine wpAnyK_last (i := 14) (by kernel_rfl) (by simp only [List.getElem?_toArray, List.getElem?_cons_succ, List.getElem?_cons_zero]; rfl) (by kernel_rfl) (by kernel_rfl) (fun kC hkC => ?_)
    go_simp
    refine hkC.out _ _ ?_
    clear hkC kC
    try simp only [Act.put, List.setIfInBounds_toArray, List.set_cons_zero, List.set_cons_succ]
    refine wpAnyK_done (by kernel_rfl) ?_ _
    generalize ((((w5.setCell ⟨C, t * 5, none⟩ (.int .i64 t3)).setCell ⟨C, t * 5 + 1, none⟩ (.int .i64 l3)).setCell ⟨C, t * 5 + 2, none⟩ (.int .i64 s3)).setCell ⟨C, t * 5 + 3, none⟩ (.bool r3)).setCell ⟨C, t * 5 + 4, none⟩ (.int .i64 x3') = wz at *
    clear hc5 m5 F0 F1 F2 F3 F4 hl5 hX5 hXd x0 x1' x2' x3 x4 m0 m1 m2 m3 m4 y0 xl hK
    go_wp2_with fail
    (first | go_end0 | ((try simp only [Exit.inBlock, Exit.then]); refine bodyPost_ret (results_none rfl _ _ _) rfl ?_))
    refine ⟨rfl, by rw [HRES.out]; exact HP.out.hm, ?_, HP.out.kp⟩
    rw [HRES.out, HOO.out, HNN.out]
    dsimp only
    have h := HP.out.cr
    rw [hput_twice] at h
    exact h.congr (fun _ _ => rfl) (bput_id HOD.out) (fun _ _ => rfl)
  · have hc : cH0 f t read = f t := if_neg (by rw [HF.out]; exact e0)
    have HH := Lib.hid (hc.trans HF.out)
    have e0' : (s1 == 0) = false := by simpa using e0
    clear hc e0
    by_cases e9 : s1 = 9
    · subst e9
      have hof := HSO.out (.inr rfl)
      subst hof
      cases leave
      · have hco : cOut f o t read false = false := by unfold cOut; rw [HOT.out]; simp
        have HCO := Lib.hid hco
        clear hco
        have HX3 := Lib.hid HX.out; have HFT := Lib.hid HF.out; have HOD := Lib.hid HOT.out
        obtain ⟨x0, x1', x2', x3, x4⟩ := HX3.out.cr.hx.at ht HFT.out
        have y0 := HX3.out.cr.oc ht
        rw [HOD.out] at y0
        have xl := HX3.out.cr.lt
        obtain ⟨m0, m1, m2, m3, m4⟩ := mapCs HX3.out.mp
        obtain ⟨M', h', hd⟩ : ∃ M' h', wTakeI M ⟨t1, l1, 9, r1, x1⟩ = (M', h') := ⟨_, _, rfl⟩
        obtain ⟨t3, l3, s3, r3, x3'⟩ := h'
        have hres : cRes M f o t read false = (M', ⟨t3, l3, s3, r3, x3'⟩) := by unfold cRes; rw [HCO.out]; rw [if_neg (by decide), HH.out]; exact hd
        have hO : cO M f o t read false = bput o t false := by unfold cO; rw [HCO.out]; rfl
        have hN : cN M f o n t read false = n := by unfold cN; rw [HCO.out]; rfl
        have HD := Lib.hid hd; have HRES := Lib.hid hres; have HOO := Lib.hid hO; have HNN := Lib.hid hN
        clear hd hres hO hN
        go_wp2_with fail
        have hXd := HX3.out.no ((Keeps.refl NoS _).drew)
        refine wp_region_kept_drew 14 (fun w' => (w'.cell? ⟨C, t * 5, none⟩ = some (.int .i64 t1) ∧ w'.cell? ⟨C, t * 5 + 1, none⟩ = some (.int .i64 l1) ∧ w'.cell? ⟨C, t * 5 + 2, none⟩ = some (.int .i64 9) ∧ w'.cell? ⟨C, t * 5 + 3, none⟩ = some (.bool r1) ∧ w'.cell? ⟨C, t * 5 + 4, none⟩ = some (.int .i64 x1)) ∧ (w'.cell? ⟨B, 0, none⟩ = some (.int .i64 2) ∧ w'.cell? ⟨B, 1, none⟩ = some (.int .i64 2) ∧ w'.cell? ⟨B, 2, none⟩ = some (.int .i64 4) ∧ w'.cell? ⟨B, 3, none⟩ = some (.int .i64 0) ∧ w'.cell? ⟨B, 4, none⟩ = some (.int .i64 2))) 14 (fun _ => True) (by kernel_rfl) (⟨⟨x0, x1', x2', x3, x4⟩, ⟨m0, m1, m2, m3, m4⟩⟩) (trivial) (fun hK => ?_)
        refine wpAnyK_take1 (i := 0) (v := ?_) (by simp only [List.getElem?_toArray, List.getElem?_cons_succ, List.getElem?_cons_zero]; rfl) (by kernel_rfl) (by kernel_rfl) (by kernel_rfl) (by kernel_rfl) (by kernel_rfl) (by kernel_rfl) (by exact fun _ _ _ h => h) (Or.inl ⟨by rfl, ?_⟩) (hK _) ?_
        rotate_left
        · intro w hSw; (try dsimp only at hSw); go_simp; (try with_reducible rfl)
        try simp only [Act.put, List.setIfInBounds_toArray, List.set_cons_zero, List.set_cons_succ]
        refine wpAnyK_take1 (i := 1) (v := ?_) (by simp only [List.getElem?_toArray, List.getElem?_cons_succ, List.getElem?_cons_zero]; rfl) (by kernel_rfl) (by kernel_rfl) (by kernel_rfl) (by kernel_rfl) (by kernel_rfl) (by kernel_rfl) (by exact fun _ _ _ h => h) (Or.inl ⟨by rfl, ?_⟩) (hK _) ?_
        rotate_left
        · intro w hSw; (try dsimp only at hSw); go_simp; (try with_reducible rfl)
        try simp only [Act.put, List.setIfInBounds_toArray, List.set_cons_zero, List.set_cons_succ]
        refine wpAnyK_take1 (i := 2) (v := ?_) (by simp only [List.getElem?_toArray, List.getElem?_cons_succ, List.getElem?_cons_zero]; rfl) (by kernel_rfl) (by kernel_rfl) (by kernel_rfl) (by kernel_rfl) (by kernel_rfl) (by kernel_rfl) (by exact fun _ _ _ h => h) (Or.inl ⟨by rfl, ?_⟩) (hK _) ?_
        rotate_left
        · intro w hSw; (try dsimp only at hSw); go_simp; (try with_reducible rfl)
        try simp only [Act.put, List.setIfInBounds_toArray, List.set_cons_zero, List.set_cons_succ]
        refine wpAnyK_take1 (i := 3) (v := ?_) (by simp only [List.getElem?_toArray, List.getElem?_cons_succ, List.getElem?_cons_zero]; rfl) (by kernel_rfl) (by kernel_rfl) (by kernel_rfl) (by kernel_rfl) (by kernel_rfl) (by kernel_rfl) (by exact fun _ _ _ h => h) (Or.inl ⟨by rfl, ?_⟩) (hK _) ?_
        rotate_left
        · intro w hSw; (try dsimp only at hSw); go_simp; (try with_reducible rfl)
        try simp only [Act.put, List.setIfInBounds_toArray, List.set_cons_zero, List.set_cons_succ]
        refine wpAnyK_take1 (i := 4) (v := ?_) (by simp only [List.getElem?_toArray, List.getElem?_cons_succ, List.getElem?_cons_zero]; rfl) (by kernel_rfl) (by kernel_rfl) (by kernel_rfl) (by kernel_rfl) (by kernel_rfl) (by kernel_rfl) (by exact fun _ _ _ h => h) (Or.inl ⟨by rfl, ?_⟩) (hK _) ?_
        rotate_left
        · intro w hSw; (try dsimp only at hSw); go_simp; (try with_reducible rfl)
        try simp only [Act.put, List.setIfInBounds_toArray, List.set_cons_zero, List.set_cons_succ]
        refine wpAnyK_take1 (i := 5) (v := ?_) (by simp only [List.getElem?_toArray, List.getElem?_cons_succ, List.getElem?_cons_zero]; rfl) (by kernel_rfl) (by kernel_rfl) (by kernel_rfl) (by kernel_rfl) (by kernel_rfl) (by kernel_rfl) (by exact fun _ _ _ h => h) (Or.inl ⟨by rfl, ?_⟩) (hK _) ?_
        rotate_left
        · intro w hSw; (try dsimp only at hSw); go_simp; (try with_reducible rfl)
        try simp only [Act.put, List.setIfInBounds_toArray, List.set_cons_zero, List.set_cons_succ]
        refine wpAnyK_take1 (i := 6) (v := ?_) (by simp only [List.getElem?_toArray, List.getElem?_cons_succ, List.getElem?_cons_zero]; rfl) (by kernel_rfl) (by kernel_rfl) (by kernel_rfl) (by kernel_rfl) (by kernel_rfl) (by kernel_rfl) (by exact fun _ _ _ h => h) (Or.inl ⟨by rfl, ?_⟩) (hK _) ?_
        rotate_left
        · intro w hSw; (try dsimp only at hSw); go_simp; (try with_reducible rfl)
        try simp only [Act.put, List.setIfInBounds_toArray, List.set_cons_zero, List.set_cons_succ]
        refine wpAnyK_take1 (i := 7) (v := ?_) (by simp only [List.getElem?_toArray, List.getElem?_cons_succ, List.getElem?_cons_zero]; rfl) (by kernel_rfl) (by kernel_rfl) (by kernel_rfl) (by kernel_rfl) (by kernel_rfl) (by kernel_rfl) (by exact fun _ _ _ h => h) (Or.inl ⟨by rfl, ?_⟩) (hK _) ?_
        rotate_left
        · intro w hSw; (try dsimp only at hSw); go_simp; (try with_reducible rfl)
        try simp only [Act.put, List.setIfInBounds_toArray, List.set_cons_zero, List.set_cons_succ]
        refine wpAnyK_take1 (i := 8) (v := ?_) (by simp only [List.getElem?_toArray, List.getElem?_cons_succ, List.getElem?_cons_zero]; rfl) (by kernel_rfl) (by kernel_rfl) (by kernel_rfl) (by kernel_rfl) (by kernel_rfl) (by kernel_rfl) (by exact fun _ _ _ h => h) (Or.inl ⟨by rfl, ?_⟩) (hK _) ?_
        rotate_left
        · intro w hSw; (try dsimp only at hSw); go_simp; (try with_reducible rfl)
        try simp only [Act.put, List.setIfInBounds_toArray, List.set_cons_zero, List.set_cons_succ]
        refine wpAnyK_take1 (i := 9) (v := ?_) (by simp only [List.getElem?_toArray, List.getElem?_cons_succ, List.getElem?_cons_zero]; rfl) (by kernel_rfl) (by kernel_rfl) (by kernel_rfl) (by kernel_rfl) (by kernel_rfl) (by kernel_rfl) (by exact fun _ _ _ h => h) (Or.inl ⟨by rfl, ?_⟩) (hK _) ?_
        rotate_left
        · intro w hSw; (try dsimp only at hSw); go_simp; (try with_reducible rfl)
        try simp only [Act.put, List.setIfInBounds_toArray, List.set_cons_zero, List.set_cons_succ]
        refine wpAnyK_takeT (i := 11) (v := ?_) (by simp only [List.getElem?_toArray, List.getElem?_cons_succ, List.getElem?_cons_zero]; rfl) (by kernel_rfl) (by kernel_rfl) (by kernel_rfl) (by kernel_rfl) (by kernel_rfl) (by exact fun _ _ _ h => h) (Or.inl ⟨by rfl, ?_⟩) (hK _) ?_
        rotate_left
        · intro w hSw; (try dsimp only at hSw); go_simp; (try with_reducible rfl)
        try simp only [Act.put, List.setIfInBounds_toArray, List.set_cons_zero, List.set_cons_succ]
        refine wpAnyK_takeT (i := 12) (v := ?_) (by simp only [List.getElem?_toArray, List.getElem?_cons_succ, List.getElem?_cons_zero]; rfl) (by kernel_rfl) (by kernel_rfl) (by kernel_rfl) (by kernel_rfl) (by kernel_rfl) (by exact fun _ _ _ h => h) (Or.inl ⟨by rfl, ?_⟩) (hK _) ?_
        rotate_left
        · intro w hSw; (try dsimp only at hSw); go_simp; (try with_reducible rfl)
        try simp only [Act.put, List.setIfInBounds_toArray, List.set_cons_zero, List.set_cons_succ]
        refine wpAnyK_one (i := 10) (by kernel_rfl) (by simp only [List.getElem?_toArray, List.getElem?_cons_succ, List.getElem?_cons_zero]; rfl) (fun kC hkC => ?_)
        go_simp
        refine (rwtake8_any t1 l1 9 r1 x1 a v M _ hXd.hm HL.out).mono ?_; rw [HD.out]; unfold handV; dsimp only; rintro e w5 ⟨rfl, hm, hk⟩; have hX5 := hXd.turn HO.out hm hk; have m5 := mapCs hX5.mp; have hc5 := hX5.cr.hx.at ht HFT.out; obtain ⟨F0, F1, F2, F3, F4⟩ := hX5.cr.hx.frees t; have hl5 := hX5.cr.lt; have hP := hX5.hand HO.out ht ⟨t3, l3, s3, r3, x3'⟩; unfold setH at hP; dsimp only at hP; have HP := Lib.hid hP; clear hP hm hk
        (try go_wp2_with fail)
        refine hkC.out _ _ (⟨hc5, m5⟩) (trivial) (fun hK => ?_)
        clear hkC kC
        try simp only [Act.put, List.setIfInBounds_toArray, List.set_cons_zero, List.set_cons_succ]
        refine wpAnyK_take1 (i := 13) (v := ?_) (by simp only [List.getElem?_toArray, List.getElem?_cons_succ, List.getElem?_cons_zero]; rfl) (by kernel_rfl) (by kernel_rfl) (by kernel_rfl) (by kernel_rfl) (by kernel_rfl) (by kernel_rfl) (by exact fun _ _ _ h => h) (Or.inl ⟨by rfl, ?_⟩) (hK _) ?_
        rotate_left
        · intro w hSw; (try dsimp only at hSw); go_simp; (try with_reducible rfl)
        try simp only [Act.put, List.setIfInBounds_toArray, List.set_cons_zero, List.set_cons_succ]
        refine wpAnyK_last (i := 14) (by kernel_rfl) (by simp only [List.getElem?_toArray, List.getElem?_cons_succ, List.getElem?_cons_zero]; rfl) (by kernel_rfl) (by kernel_rfl) (fun kC hkC => ?_)
        go_simp
        refine hkC.out _ _ ?_
        clear hkC kC
        try simp only [Act.put, List.setIfInBounds_toArray, List.set_cons_zero, List.set_cons_succ]
        refine wpAnyK_done (by kernel_rfl) ?_ _
        generalize ((((w5.setCell ⟨C, t * 5, none⟩ (.int .i64 t3)).setCell ⟨C, t * 5 + 1, none⟩ (.int .i64 l3)).setCell ⟨C, t * 5 + 2, none⟩ (.int .i64 s3)).setCell ⟨C, t * 5 + 3, none⟩ (.bool r3)).setCell ⟨C, t * 5 + 4, none⟩ (.int .i64 x3') = wz at *
        clear hc5 m5 F0 F1 F2 F3 F4 hl5 hX5 hXd x0 x1' x2' x3 x4 m0 m1 m2 m3 m4 y0 xl hK
        go_wp2_with fail
        (first | go_end0 | ((try simp only [Exit.inBlock, Exit.then]); refine bodyPost_ret (results_none rfl _ _ _) rfl ?_))
        refine ⟨rfl, by rw [HRES.out]; exact HP.out.hm, ?_, HP.out.kp⟩
        rw [HRES.out, HOO.out, HNN.out]
        dsimp only
        have h := HP.out.cr
        exact h.congr (fun _ _ => rfl) (bput_id HOD.out) (fun _ _ => rfl)
      · have hco : cOut f o t read true = true := by unfold cOut; rw [HH.out]; simp
        have HCO := Lib.hid hco
        clear hco
        obtain ⟨x0, x1', x2', x3, x4⟩ := HX.out.cr.hx.at ht HF.out
        obtain ⟨f0, f1, f2, f3, f4⟩ := HX.out.cr.hx.frees t
        have y0 := HX.out.cr.oc ht
        have y1 := HX.out.cr.lt
        have y2 := HX.out.cr.free (20 + t)
        rw [HOT.out] at y0
        have HX3 := Lib.hid (HX.out.out HO.out ht true)
        go_upto_region 5 with fail
        generalize wa.setCell ⟨C, 20 + t, none⟩ (.bool true) = wc at *
        clear x0 x1' x2' x3 x4 f0 f1 f2 f3 f4 y0 y1 y2
        have HFT := Lib.hid HF.out; have HOD := Lib.hid (bput_same (o := o) (t := t) (q := true))
        clear HX
        obtain ⟨x0, x1', x2', x3, x4⟩ := HX3.out.cr.hx.at ht HFT.out
        have y0 := HX3.out.cr.oc ht
        rw [HOD.out] at y0
        have xl := HX3.out.cr.lt
        obtain ⟨m0, m1, m2, m3, m4⟩ := mapCs HX3.out.mp
        obtain ⟨M', h', hd⟩ : ∃ M' h', wDropI M ⟨t1, l1, 9, r1, x1⟩ = (M', h') := ⟨_, _, rfl⟩
        obtain ⟨t3, l3, s3, r3, x3'⟩ := h'
        have hres : cRes M f o t read true = (M', ⟨t3, l3, s3, r3, x3'⟩) := by unfold cRes; rw [HCO.out]; rw [if_pos rfl, HH.out]; exact hd
        have hO : cO M f o t read true = bput o t (!decide (s3 = 0)) := by unfold cO; rw [HCO.out, hres]; rfl
        have hN : cN M f o n t read true = if s3 = 0 then nput n t else n := by unfold cN; rw [HCO.out, hres]; simp
        have HD := Lib.hid hd; have HRES := Lib.hid hres; have HOO := Lib.hid hO; have HNN := Lib.hid hN
        clear hd hres hO hN
        go_wp2_with fail
        have hXd := HX3.out.no ((Keeps.refl NoS _).drew)
        refine wp_region_kept_drew 14 (fun w' => (w'.cell? ⟨C, t * 5, none⟩ = some (.int .i64 t1) ∧ w'.cell? ⟨C, t * 5 + 1, none⟩ = some (.int .i64 l1) ∧ w'.cell? ⟨C, t * 5 + 2, none⟩ = some (.int .i64 9) ∧ w'.cell? ⟨C, t * 5 + 3, none⟩ = some (.bool r1) ∧ w'.cell? ⟨C, t * 5 + 4, none⟩ = some (.int .i64 x1)) ∧ (w'.cell? ⟨B, 0, none⟩ = some (.int .i64 2) ∧ w'.cell? ⟨B, 1, none⟩ = some (.int .i64 2) ∧ w'.cell? ⟨B, 2, none⟩ = some (.int .i64 4) ∧ w'.cell? ⟨B, 3, none⟩ = some (.int .i64 0) ∧ w'.cell? ⟨B, 4, none⟩ = some (.int .i64 2))) 14 (fun _ => True) (by kernel_rfl) (⟨⟨x0, x1', x2', x3, x4⟩, ⟨m0, m1, m2, m3, m4⟩⟩) (trivial) (fun hK => ?_)
        refine wpAnyK_take1 (i := 0) (v := ?_) (by simp only [List.getElem?_toArray, List.getElem?_cons_succ, List.getElem?_cons_zero]; rfl) (by kernel_rfl) (by kernel_rfl) (by kernel_rfl) (by kernel_rfl) (by kernel_rfl) (by kernel_rfl) (by exact fun _ _ _ h => h) (Or.inl ⟨by rfl, ?_⟩) (hK _) ?_
        rotate_left
        · intro w hSw; (try dsimp only at hSw); go_simp; (try with_reducible rfl)
        try simp only [Act.put, List.setIfInBounds_toArray, List.set_cons_zero, List.set_cons_succ]
        refine wpAnyK_take1 (i := 1) (v := ?_) (by simp only [List.getElem?_toArray, List.getElem?_cons_succ, List.getElem?_cons_zero]; rfl) (by kernel_rfl) (by kernel_rfl) (by kernel_rfl) (by kernel_rfl) (by kernel_rfl) (by kernel_rfl) (by exact fun _ _ _ h => h) (Or.inl ⟨by rfl, ?_⟩) (hK _) ?_
        rotate_left
        · intro w hSw; (try dsimp only at hSw); go_simp; (try with_reducible rfl)
        try simp only [Act.put, List.setIfInBounds_toArray, List.set_cons_zero, List.set_cons_succ]
        refine wpAnyK_take1 (i := 2) (v := ?_) (by simp only [List.getElem?_toArray, List.getElem?_cons_succ, List.getElem?_cons_zero]; rfl) (by kernel_rfl) (by kernel_rfl) (by kernel_rfl) (by kernel_rfl) (by kernel_rfl) (by kernel_rfl) (by exact fun _ _ _ h => h) (Or.inl ⟨by rfl, ?_⟩) (hK _) ?_
        rotate_left
        · intro w hSw; (try dsimp only at hSw); go_simp; (try with_reducible rfl)
        try simp only [Act.put, List.setIfInBounds_toArray, List.set_cons_zero, List.set_cons_succ]
        refine wpAnyK_take1 (i := 3) (v := ?_) (by simp only [List.getElem?_toArray, List.getElem?_cons_succ, List.getElem?_cons_zero]; rfl) (by kernel_rfl) (by kernel_rfl) (by kernel_rfl) (by kernel_rfl) (by kernel_rfl) (by kernel_rfl) (by exact fun _ _ _ h => h) (Or.inl ⟨by rfl, ?_⟩) (hK _) ?_
        rotate_left
        · intro w hSw; (try dsimp only at hSw); go_simp; (try with_reducible rfl)
        try simp only [Act.put, List.setIfInBounds_toArray, List.set_cons_zero, List.set_cons_succ]
        refine wpAnyK_take1 (i := 4) (v := ?_) (by simp only [List.getElem?_toArray, List.getElem?_cons_succ, List.getElem?_cons_zero]; rfl) (by kernel_rfl) (by kernel_rfl) (by kernel_rfl) (by kernel_rfl) (by kernel_rfl) (by kernel_rfl) (by exact fun _ _ _ h => h) (Or.inl ⟨by rfl, ?_⟩) (hK _) ?_
        rotate_left
        · intro w hSw; (try dsimp only at hSw); go_simp; (try with_reducible rfl)
        try simp only [Act.put, List.setIfInBounds_toArray, List.set_cons_zero, List.set_cons_succ]
        refine wpAnyK_take1 (i := 5) (v := ?_) (by simp only [List.getElem?_toArray, List.getElem?_cons_succ, List.getElem?_cons_zero]; rfl) (by kernel_rfl) (by kernel_rfl) (by kernel_rfl) (by kernel_rfl) (by kernel_rfl) (by kernel_rfl) (by exact fun _ _ _ h => h) (Or.inl ⟨by rfl, ?_⟩) (hK _) ?_
        rotate_left
        · intro w hSw; (try dsimp only at hSw); go_simp; (try with_reducible rfl)
        try simp only [Act.put, List.setIfInBounds_toArray, List.set_cons_zero, List.set_cons_succ]
        refine wpAnyK_take1 (i := 6) (v := ?_) (by simp only [List.getElem?_toArray, List.getElem?_cons_succ, List.getElem?_cons_zero]; rfl) (by kernel_rfl) (by kernel_rfl) (by kernel_rfl) (by kernel_rfl) (by kernel_rfl) (by kernel_rfl) (by exact fun _ _ _ h => h) (Or.inl ⟨by rfl, ?_⟩) (hK _) ?_
        rotate_left
        · intro w hSw; (try dsimp only at hSw); go_simp; (try with_reducible rfl)
        try simp only [Act.put, List.setIfInBounds_toArray, List.set_cons_zero, List.set_cons_succ]
        refine wpAnyK_take1 (i := 7) (v := ?_) (by simp only [List.getElem?_toArray, List.getElem?_cons_succ, List.getElem?_cons_zero]; rfl) (by kernel_rfl) (by kernel_rfl) (by kernel_rfl) (by kernel_rfl) (by kernel_rfl) (by kernel_rfl) (by exact fun _ _ _ h => h) (Or.inl ⟨by rfl, ?_⟩) (hK _) ?_
        rotate_left
        · intro w hSw; (try dsimp only at hSw); go_simp; (try with_reducible rfl)
        try simp only [Act.put, List.setIfInBounds_toArray, List.set_cons_zero, List.set_cons_succ]
        refine wpAnyK_take1 (i := 8) (v := ?_) (by simp only [List.getElem?_toArray, List.getElem?_cons_succ, List.getElem?_cons_zero]; rfl) (by kernel_rfl) (by kernel_rfl) (by kernel_rfl) (by kernel_rfl) (by kernel_rfl) (by kernel_rfl) (by exact fun _ _ _ h => h) (Or.inl ⟨by rfl, ?_⟩) (hK _) ?_
        rotate_left
        · intro w hSw; (try dsimp only at hSw); go_simp; (try with_reducible rfl)
        try simp only [Act.put, List.setIfInBounds_toArray, List.set_cons_zero, List.set_cons_succ]
        refine wpAnyK_take1 (i := 9) (v := ?_) (by simp only [List.getElem?_toArray, List.getElem?_cons_succ, List.getElem?_cons_zero]; rfl) (by kernel_rfl) (by kernel_rfl) (by kernel_rfl) (by kernel_rfl) (by kernel_rfl) (by kernel_rfl) (by exact fun _ _ _ h => h) (Or.inl ⟨by rfl, ?_⟩) (hK _) ?_
        rotate_left
        · intro w hSw; (try dsimp only at hSw); go_simp; (try with_reducible rfl)
        try simp only [Act.put, List.setIfInBounds_toArray, List.set_cons_zero, List.set_cons_succ]
        refine wpAnyK_takeT (i := 11) (v := ?_) (by simp only [List.getElem?_toArray, List.getElem?_cons_succ, List.getElem?_cons_zero]; rfl) (by kernel_rfl) (by kernel_rfl) (by kernel_rfl) (by kernel_rfl) (by kernel_rfl) (by exact fun _ _ _ h => h) (Or.inl ⟨by rfl, ?_⟩) (hK _) ?_
        rotate_left
        · intro w hSw; (try dsimp only at hSw); go_simp; (try with_reducible rfl)
        try simp only [Act.put, List.setIfInBounds_toArray, List.set_cons_zero, List.set_cons_succ]
        refine wpAnyK_takeT (i := 12) (v := ?_) (by simp only [List.getElem?_toArray, List.getElem?_cons_succ, List.getElem?_cons_zero]; rfl) (by kernel_rfl) (by kernel_rfl) (by kernel_rfl) (by kernel_rfl) (by kernel_rfl) (by exact fun _ _ _ h => h) (Or.inl ⟨by rfl, ?_⟩) (hK _) ?_
        rotate_left
        · intro w hSw; (try dsimp only at hSw); go_simp; (try with_reducible rfl)
        try simp only [Act.put, List.setIfInBounds_toArray, List.set_cons_zero, List.set_cons_succ]
        refine wpAnyK_one (i := 10) (by kernel_rfl) (by simp only [List.getElem?_toArray, List.getElem?_cons_succ, List.getElem?_cons_zero]; rfl) (fun kC hkC => ?_)
        go_simp
        refine (rwdrop8_any t1 l1 9 r1 x1 a v M _ hXd.hm HL.out).mono ?_; rw [HD.out]; unfold handV; dsimp only; rintro e w5 ⟨rfl, hm, hk⟩; have hX5 := hXd.turn HO.out hm hk; have m5 := mapCs hX5.mp; have hc5 := hX5.cr.hx.at ht HFT.out; obtain ⟨F0, F1, F2, F3, F4⟩ := hX5.cr.hx.frees t; have hl5 := hX5.cr.lt; have hP := hX5.hand HO.out ht ⟨t3, l3, s3, r3, x3'⟩; unfold setH at hP; dsimp only at hP; have HP := Lib.hid hP; clear hP hm hk
        (try go_wp2_with fail)
        refine hkC.out _ _ (⟨hc5, m5⟩) (trivial) (fun hK => ?_)
        clear hkC kC
        try simp only [Act.put, List.setIfInBounds_toArray, List.set_cons_zero, List.set_cons_succ]
        refine wpAnyK_take1 (i := 13) (v := ?_) (by simp only [List.getElem?_toArray, List.getElem?_cons_succ, List.getElem?_cons_zero]; rfl) (by kernel_rfl) (by kernel_rfl) (by kernel_rfl) (by kernel_rfl) (by kernel_rfl) (by kernel_rfl) (by exact fun _ _ _ h => h) (Or.inl ⟨by rfl, ?_⟩) (hK _) ?_
        rotate_left
        · intro w hSw; (try dsimp only at hSw); go_simp; (try with_reducible rfl)
        try simp only [Act.put, List.setIfInBounds_toArray, List.set_cons_zero, List.set_cons_succ]
        refine wpAnyK_last (i := 14) (by kernel_rfl) (by simp only [List.getElem?_toArray, List.getElem?_cons_succ, List.getElem?_cons_zero]; rfl) (by kernel_rfl) (by kernel_rfl) (fun kC hkC => ?_)
        go_simp
        refine hkC.out _ _ ?_
        clear hkC kC
        try simp only [Act.put, List.setIfInBounds_toArray, List.set_cons_zero, List.set_cons_succ]
        refine wpAnyK_done (by kernel_rfl) ?_ _
        generalize ((((w5.setCell ⟨C, t * 5, none⟩ (.int .i64 t3)).setCell ⟨C, t * 5 + 1, none⟩ (.int .i64 l3)).setCell ⟨C, t * 5 + 2, none⟩ (.int .i64 s3)).setCell ⟨C, t * 5 + 3, none⟩ (.bool r3)).setCell ⟨C, t * 5 + 4, none⟩ (.int .i64 x3') = wz at *
        clear hc5 m5 F0 F1 F2 F3 F4 hl5 hX5 hXd x0 x1' x2' x3 x4 m0 m1 m2 m3 m4 y0 xl hK
        obtain ⟨x0, x1', x2', x3, x4⟩ := HP.out.cr.hx.at ht (hput_same (f := f) (t := t) (x := ⟨t3, l3, s3, r3, x3'⟩))
        by_cases e0 : s3 = 0
        · subst e0
          have hX2 := HP.out.out HO.out ht false
          have xl := HP.out.cr.lt
          have o4 := HP.out.cr.free (20 + t)
          have o3 := HP.out.cr.oc ht
          have HY := Lib.hid hX2
          clear hX2
          obtain ⟨nt, hnt⟩ : ∃ z, n t = z := ⟨_, rfl⟩
          have hnb := HNB.out
          rw [hnt] at hnb
          have HNT := Lib.hid hnt
          clear hnt
          go_upto_region 9 with fail
          generalize wz.setCell ⟨C, 20 + t, none⟩ (.bool false) = wy at *
          clear x0 x1' x2' x3 x4 xl o4 o3
          have hXd := HY.out.no ((Keeps.refl NoS _).drew)
          have hn3 := hXd.cr.nu ht
          have hn4 := hXd.cr.free (24 + t)
          have xl2 := hXd.cr.lt
          have HP4 := Lib.hid ((HY.out.count HO.out ht).no ((Keeps.refl NoS _).drew))
          rw [HNT.out] at hn3 HP4
          refine wp_region_kept_drew 10 (fun w' => w'.cell? ⟨C, 24 + t, none⟩ = some (.int .i64 (nt : Nat))) 10 (fun _ => True) (by kernel_rfl) (hn3) (trivial) (fun hK => ?_)
          refine wpAnyK_take1 (i := 0) (v := ?_) (by simp only [List.getElem?_toArray, List.getElem?_cons_succ, List.getElem?_cons_zero]; rfl) (by kernel_rfl) (by kernel_rfl) (by kernel_rfl) (by kernel_rfl) (by kernel_rfl) (by kernel_rfl) (by exact fun _ _ _ h => h) (Or.inl ⟨by rfl, ?_⟩) (hK _) ?_
          rotate_left
          · intro w hSw; (try dsimp only at hSw); go_simp; (try with_reducible rfl)
          try simp only [Act.put, List.setIfInBounds_toArray, List.set_cons_zero, List.set_cons_succ]
          refine wpAnyK_take1 (i := 1) (v := ?_) (by simp only [List.getElem?_toArray, List.getElem?_cons_succ, List.getElem?_cons_zero]; rfl) (by kernel_rfl) (by kernel_rfl) (by kernel_rfl) (by kernel_rfl) (by kernel_rfl) (by kernel_rfl) (by exact fun _ _ _ h => h) (Or.inl ⟨by rfl, ?_⟩) (hK _) ?_
          rotate_left
          · intro w hSw; (try dsimp only at hSw); go_simp; (try with_reducible rfl)
          try simp only [Act.put, List.setIfInBounds_toArray, List.set_cons_zero, List.set_cons_succ]
          refine wpAnyK_take1 (i := 2) (v := ?_) (by simp only [List.getElem?_toArray, List.getElem?_cons_succ, List.getElem?_cons_zero]; rfl) (by kernel_rfl) (by kernel_rfl) (by kernel_rfl) (by kernel_rfl) (by kernel_rfl) (by kernel_rfl) (by exact fun _ _ _ h => h) (Or.inl ⟨by rfl, ?_⟩) (hK _) ?_
          rotate_left
          · intro w hSw; (try dsimp only at hSw); go_simp; (try with_reducible rfl)
          try simp only [Act.put, List.setIfInBounds_toArray, List.set_cons_zero, List.set_cons_succ]
          refine wpAnyK_take1 (i := 3) (v := ?_) (by simp only [List.getElem?_toArray, List.getElem?_cons_succ, List.getElem?_cons_zero]; rfl) (by kernel_rfl) (by kernel_rfl) (by kernel_rfl) (by kernel_rfl) (by kernel_rfl) (by kernel_rfl) (by exact fun _ _ _ h => h) (Or.inl ⟨by rfl, ?_⟩) (hK _) ?_
          rotate_left
          · intro w hSw; (try dsimp only at hSw); go_simp; (try with_reducible rfl)
          try simp only [Act.put, List.setIfInBounds_toArray, List.set_cons_zero, List.set_cons_succ]
          refine wpAnyK_take1 (i := 4) (v := ?_) (by simp only [List.getElem?_toArray, List.getElem?_cons_succ, List.getElem?_cons_zero]; rfl) (by kernel_rfl) (by kernel_rfl) (by kernel_rfl) (by kernel_rfl) (by kernel_rfl) (by kernel_rfl) (by exact fun _ _ _ h => h) (Or.inl ⟨by rfl, ?_⟩) (hK _) ?_
          rotate_left
          · intro w hSw; (try dsimp only at hSw); go_simp; (try with_reducible rfl)
          try simp only [Act.put, List.setIfInBounds_toArray, List.set_cons_zero, List.set_cons_succ]
          refine wpAnyK_take1 (i := 5) (v := ?_) (by simp only [List.getElem?_toArray, List.getElem?_cons_succ, List.getElem?_cons_zero]; rfl) (by kernel_rfl) (by kernel_rfl) (by kernel_rfl) (by kernel_rfl) (by kernel_rfl) (by kernel_rfl) (by exact fun _ _ _ h => h) (Or.inl ⟨by rfl, ?_⟩) (hK _) ?_
          rotate_left
          · intro w hSw; (try dsimp only at hSw); go_simp; (try with_reducible rfl)
          try simp only [Act.put, List.setIfInBounds_toArray, List.set_cons_zero, List.set_cons_succ]
          refine wpAnyK_take1 (i := 6) (v := ?_) (by simp only [List.getElem?_toArray, List.getElem?_cons_succ, List.getElem?_cons_zero]; rfl) (by kernel_rfl) (by kernel_rfl) (by kernel_rfl) (by kernel_rfl) (by kernel_rfl) (by kernel_rfl) (by exact fun _ _ _ h => h) (Or.inl ⟨by rfl, ?_⟩) (hK _) ?_
          rotate_left
          · intro w hSw; (try dsimp only at hSw); go_simp; (try with_reducible rfl)
          try simp only [Act.put, List.setIfInBounds_toArray, List.set_cons_zero, List.set_cons_succ]
          refine wpAnyK_takeT (i := 7) (v := ?_) (by simp only [List.getElem?_toArray, List.getElem?_cons_succ, List.getElem?_cons_zero]; rfl) (by kernel_rfl) (by kernel_rfl) (by kernel_rfl) (by kernel_rfl) (by kernel_rfl) (by exact fun _ _ _ h => h) (Or.inl ⟨by rfl, ?_⟩) (hK _) ?_
          rotate_left
          · intro w hSw; (try dsimp only at hSw); go_simp; (try with_reducible rfl)
          try simp only [Act.put, List.setIfInBounds_toArray, List.set_cons_zero, List.set_cons_succ]
          refine wpAnyK_takeT (i := 8) (v := ?_) (by simp only [List.getElem?_toArray, List.getElem?_cons_succ, List.getElem?_cons_zero]; rfl) (by kernel_rfl) (by kernel_rfl) (by kernel_rfl) (by kernel_rfl) (by kernel_rfl) (by exact fun _ _ _ h => h) (Or.inl ⟨by rfl, ?_⟩) (hK _) ?_
          rotate_left
          · intro w hSw; (try dsimp only at hSw); go_simp; (try with_reducible rfl)
          try simp only [Act.put, List.setIfInBounds_toArray, List.set_cons_zero, List.set_cons_succ]
          refine wpAnyK_take1 (i := 9) (v := ?_) (by simp only [List.getElem?_toArray, List.getElem?_cons_succ, List.getElem?_cons_zero]; rfl) (by kernel_rfl) (by kernel_rfl) (by kernel_rfl) (by kernel_rfl) (by kernel_rfl) (by kernel_rfl) (by exact fun _ _ _ h => h) (Or.inl ⟨by rfl, ?_⟩) (hK _) ?_
          rotate_left
          · intro w hSw; (try dsimp only at hSw); go_simp; (try with_reducible rfl)
          try simp only [Act.put, List.setIfInBounds_toArray, List.set_cons_zero, List.set_cons_succ]
          refine wpAnyK_last (i := 10) (by kernel_rfl) (by simp only [List.getElem?_toArray, List.getElem?_cons_succ, List.getElem?_cons_zero]; rfl) (by kernel_rfl) (by kernel_rfl) (fun kC hkC => ?_)
          go_simp
          refine hkC.out _ _ ?_
          clear hkC kC
          try simp only [Act.put, List.setIfInBounds_toArray, List.set_cons_zero, List.set_cons_succ]
          refine wpAnyK_done (by kernel_rfl) ?_ _
          go_wp2_with fail
          (first | go_end0 | ((try simp only [Exit.inBlock, Exit.then]); refine bodyPost_ret (results_none rfl _ _ _) rfl ?_))
          rw [show IntKind.i64.wrap ((nt : Int) + 1) = (nt : Int) + 1 from (first_wrap nt (by omega))]
          refine ⟨rfl, by rw [HRES.out]; exact HP4.out.hm, ?_, HP4.out.kp⟩
          rw [HRES.out, HOO.out, HNN.out]
          dsimp only
          have h := HP4.out.cr
          rw [bput_twice] at h
          simpa using h
        · have e0' : (s3 == 0) = false := by simpa using e0
          have HE := Lib.hid e0
          clear e0
          go_wp2_with fail
          (first | go_end0 | ((try simp only [Exit.inBlock, Exit.then]); refine bodyPost_ret (results_none rfl _ _ _) rfl ?_))
          refine ⟨rfl, by rw [HRES.out]; exact HP.out.hm, ?_, HP.out.kp⟩
          rw [HRES.out, HOO.out, HNN.out]
          dsimp only
          have h := HP.out.cr
          rw [if_neg HE.out]
          have e : (!decide (s3 = 0)) = true := by simpa using HE.out
          rw [e]
          exact h
    · have e9' : (s1 == 9) = false := by simpa using e9
      have e9d : decide (s1 = 9) = false := by simpa using e9
      have hco : cOut f o t read leave = ot := by unfold cOut; rw [HOT.out, HH.out]; dsimp only; rw [e9d]; simp
      clear e9 e9d
      cases ot
      · have HCO := Lib.hid hco
        clear hco
        have HX3 := Lib.hid HX.out; have HFT := Lib.hid HF.out; have HOD := Lib.hid HOT.out
        obtain ⟨x0, x1', x2', x3, x4⟩ := HX3.out.cr.hx.at ht HFT.out
        have y0 := HX3.out.cr.oc ht
        rw [HOD.out] at y0
        have xl := HX3.out.cr.lt
        obtain ⟨m0, m1, m2, m3, m4⟩ := mapCs HX3.out.mp
        obtain ⟨M', h', hd⟩ : ∃ M' h', wTakeI M ⟨t1, l1, s1, r1, x1⟩ = (M', h') := ⟨_, _, rfl⟩
        obtain ⟨t3, l3, s3, r3, x3'⟩ := h'
        have hres : cRes M f o t read leave = (M', ⟨t3, l3, s3, r3, x3'⟩) := by unfold cRes; rw [HCO.out]; rw [if_neg (by decide), HH.out]; exact hd
        have hO : cO M f o t read leave = bput o t false := by unfold cO; rw [HCO.out]; rfl
        have hN : cN M f o n t read leave = n := by unfold cN; rw [HCO.out]; rfl
        have HD := Lib.hid hd; have HRES := Lib.hid hres; have HOO := Lib.hid hO; have HNN := Lib.hid hN
        clear hd hres hO hN
        go_wp2_with fail
        have hXd := HX3.out.no ((Keeps.refl NoS _).drew)
        refine wp_region_kept_drew 14 (fun w' => (w'.cell? ⟨C, t * 5, none⟩ = some (.int .i64 t1) ∧ w'.cell? ⟨C, t * 5 + 1, none⟩ = some (.int .i64 l1) ∧ w'.cell? ⟨C, t * 5 + 2, none⟩ = some (.int .i64 s1) ∧ w'.cell? ⟨C, t * 5 + 3, none⟩ = some (.bool r1) ∧ w'.cell? ⟨C, t * 5 + 4, none⟩ = some (.int .i64 x1)) ∧ (w'.cell? ⟨B, 0, none⟩ = some (.int .i64 2) ∧ w'.cell? ⟨B, 1, none⟩ = some (.int .i64 2) ∧ w'.cell? ⟨B, 2, none⟩ = some (.int .i64 4) ∧ w'.cell? ⟨B, 3, none⟩ = some (.int .i64 0) ∧ w'.cell? ⟨B, 4, none⟩ = some (.int .i64 2))) 14 (fun _ => True) (by kernel_rfl) (⟨⟨x0, x1', x2', x3, x4⟩, ⟨m0, m1, m2, m3, m4⟩⟩) (trivial) (fun hK => ?_)
        refine wpAnyK_take1 (i := 0) (v := ?_) (by simp only [List.getElem?_toArray, List.getElem?_cons_succ, List.getElem?_cons_zero]; rfl) (by kernel_rfl) (by kernel_rfl) (by kernel_rfl) (by kernel_rfl) (by kernel_rfl) (by kernel_rfl) (by exact fun _ _ _ h => h) (Or.inl ⟨by rfl, ?_⟩) (hK _) ?_
        rotate_left
        · intro w hSw; (try dsimp only at hSw); go_simp; (try with_reducible rfl)
        try simp only [Act.put, List.setIfInBounds_toArray, List.set_cons_zero, List.set_cons_succ]
        refine wpAnyK_take1 (i := 1) (v := ?_) (by simp only [List.getElem?_toArray, List.getElem?_cons_succ, List.getElem?_cons_zero]; rfl) (by kernel_rfl) (by kernel_rfl) (by kernel_rfl) (by kernel_rfl) (by kernel_rfl) (by kernel_rfl) (by exact fun _ _ _ h => h) (Or.inl ⟨by rfl, ?_⟩) (hK _) ?_
        rotate_left
        · intro w hSw; (try dsimp only at hSw); go_simp; (try with_reducible rfl)
        try simp only [Act.put, List.setIfInBounds_toArray, List.set_cons_zero, List.set_cons_succ]
        refine wpAnyK_take1 (i := 2) (v := ?_) (by simp only [List.getElem?_toArray, List.getElem?_cons_succ, List.getElem?_cons_zero]; rfl) (by kernel_rfl) (by kernel_rfl) (by kernel_rfl) (by kernel_rfl) (by kernel_rfl) (by kernel_rfl) (by exact fun _ _ _ h => h) (Or.inl ⟨by rfl, ?_⟩) (hK _) ?_
        rotate_left
        · intro w hSw; (try dsimp only at hSw); go_simp; (try with_reducible rfl)
        try simp only [Act.put, List.setIfInBounds_toArray, List.set_cons_zero, List.set_cons_succ]
        refine wpAnyK_take1 (i := 3) (v := ?_) (by simp only [List.getElem?_toArray, List.getElem?_cons_succ, List.getElem?_cons_zero]; rfl) (by kernel_rfl) (by kernel_rfl) (by kernel_rfl) (by kernel_rfl) (by kernel_rfl) (by kernel_rfl) (by exact fun _ _ _ h => h) (Or.inl ⟨by rfl, ?_⟩) (hK _) ?_
        rotate_left
        · intro w hSw; (try dsimp only at hSw); go_simp; (try with_reducible rfl)
        try simp only [Act.put, List.setIfInBounds_toArray, List.set_cons_zero, List.set_cons_succ]
        refine wpAnyK_take1 (i := 4) (v := ?_) (by simp only [List.getElem?_toArray, List.getElem?_cons_succ, List.getElem?_cons_zero]; rfl) (by kernel_rfl) (by kernel_rfl) (by kernel_rfl) (by kernel_rfl) (by kernel_rfl) (by kernel_rfl) (by exact fun _ _ _ h => h) (Or.inl ⟨by rfl, ?_⟩) (hK _) ?_
        rotate_left
        · intro w hSw; (try dsimp only at hSw); go_simp; (try with_reducible rfl)
        try simp only [Act.put, List.setIfInBounds_toArray, List.set_cons_zero, List.set_cons_succ]
        refine wpAnyK_take1 (i := 5) (v := ?_) (by simp only [List.getElem?_toArray, List.getElem?_cons_succ, List.getElem?_cons_zero]; rfl) (by kernel_rfl) (by kernel_rfl) (by kernel_rfl) (by kernel_rfl) (by kernel_rfl) (by kernel_rfl) (by exact fun _ _ _ h => h) (Or.inl ⟨by rfl, ?_⟩) (hK _) ?_
        rotate_left
        · intro w hSw; (try dsimp only at hSw); go_simp; (try with_reducible rfl)
        try simp only [Act.put, List.setIfInBounds_toArray, List.set_cons_zero, List.set_cons_succ]
        refine wpAnyK_take1 (i := 6) (v := ?_) (by simp only [List.getElem?_toArray, List.getElem?_cons_succ, List.getElem?_cons_zero]; rfl) (by kernel_rfl) (by kernel_rfl) (by kernel_rfl) (by kernel_rfl) (by kernel_rfl) (by kernel_rfl) (by exact fun _ _ _ h => h) (Or.inl ⟨by rfl, ?_⟩) (hK _) ?_
        rotate_left
        · intro w hSw; (try dsimp only at hSw); go_simp; (try with_reducible rfl)
        try simp only [Act.put, List.setIfInBounds_toArray, List.set_cons_zero, List.set_cons_succ]
        refine wpAnyK_take1 (i := 7) (v := ?_) (by simp only [List.getElem?_toArray, List.getElem?_cons_succ, List.getElem?_cons_zero]; rfl) (by kernel_rfl) (by kernel_rfl) (by kernel_rfl) (by kernel_rfl) (by kernel_rfl) (by kernel_rfl) (by exact fun _ _ _ h => h) (Or.inl ⟨by rfl, ?_⟩) (hK _) ?_
        rotate_left
        · intro w hSw; (try dsimp only at hSw); go_simp; (try with_reducible rfl)
        try simp only [Act.put, List.setIfInBounds_toArray, List.set_cons_zero, List.set_cons_succ]
        refine wpAnyK_take1 (i := 8) (v := ?_) (by simp only [List.getElem?_toArray, List.getElem?_cons_succ, List.getElem?_cons_zero]; rfl) (by kernel_rfl) (by kernel_rfl) (by kernel_rfl) (by kernel_rfl) (by kernel_rfl) (by kernel_rfl) (by exact fun _ _ _ h => h) (Or.inl ⟨by rfl, ?_⟩) (hK _) ?_
        rotate_left
        · intro w hSw; (try dsimp only at hSw); go_simp; (try with_reducible rfl)
        try simp only [Act.put, List.setIfInBounds_toArray, List.set_cons_zero, List.set_cons_succ]
        refine wpAnyK_take1 (i := 9) (v := ?_) (by simp only [List.getElem?_toArray, List.getElem?_cons_succ, List.getElem?_cons_zero]; rfl) (by kernel_rfl) (by kernel_rfl) (by kernel_rfl) (by kernel_rfl) (by kernel_rfl) (by kernel_rfl) (by exact fun _ _ _ h => h) (Or.inl ⟨by rfl, ?_⟩) (hK _) ?_
        rotate_left
        · intro w hSw; (try dsimp only at hSw); go_simp; (try with_reducible rfl)
        try simp only [Act.put, List.setIfInBounds_toArray, List.set_cons_zero, List.set_cons_succ]
        refine wpAnyK_takeT (i := 11) (v := ?_) (by simp only [List.getElem?_toArray, List.getElem?_cons_succ, List.getElem?_cons_zero]; rfl) (by kernel_rfl) (by kernel_rfl) (by kernel_rfl) (by kernel_rfl) (by kernel_rfl) (by exact fun _ _ _ h => h) (Or.inl ⟨by rfl, ?_⟩) (hK _) ?_
        rotate_left
        · intro w hSw; (try dsimp only at hSw); go_simp; (try with_reducible rfl)
        try simp only [Act.put, List.setIfInBounds_toArray, List.set_cons_zero, List.set_cons_succ]
        refine wpAnyK_takeT (i := 12) (v := ?_) (by simp only [List.getElem?_toArray, List.getElem?_cons_succ, List.getElem?_cons_zero]; rfl) (by kernel_rfl) (by kernel_rfl) (by kernel_rfl) (by kernel_rfl) (by kernel_rfl) (by exact fun _ _ _ h => h) (Or.inl ⟨by rfl, ?_⟩) (hK _) ?_
        rotate_left
        · intro w hSw; (try dsimp only at hSw); go_simp; (try with_reducible rfl)
        try simp only [Act.put, List.setIfInBounds_toArray, List.set_cons_zero, List.set_cons_succ]
        refine wpAnyK_one (i := 10) (by kernel_rfl) (by simp only [List.getElem?_toArray, List.getElem?_cons_succ, List.getElem?_cons_zero]; rfl) (fun kC hkC => ?_)
        go_simp
        refine (rwtake8_any t1 l1 s1 r1 x1 a v M _ hXd.hm HL.out).mono ?_; rw [HD.out]; unfold handV; dsimp only; rintro e w5 ⟨rfl, hm, hk⟩; have hX5 := hXd.turn HO.out hm hk; have m5 := mapCs hX5.mp; have hc5 := hX5.cr.hx.at ht HFT.out; obtain ⟨F0, F1, F2, F3, F4⟩ := hX5.cr.hx.frees t; have hl5 := hX5.cr.lt; have hP := hX5.hand HO.out ht ⟨t3, l3, s3, r3, x3'⟩; unfold setH at hP; dsimp only at hP; have HP := Lib.hid hP; clear hP hm hk
        (try go_wp2_with fail)
        refine hkC.out _ _ (⟨hc5, m5⟩) (trivial) (fun hK => ?_)
        clear hkC kC
        try simp only [Act.put, List.setIfInBounds_toArray, List.set_cons_zero, List.set_cons_succ]
        refine wpAnyK_take1 (i := 13) (v := ?_) (by simp only [List.getElem?_toArray, List.getElem?_cons_succ, List.getElem?_cons_zero]; rfl) (by kernel_rfl) (by kernel_rfl) (by kernel_rfl) (by kernel_rfl) (by kernel_rfl) (by kernel_rfl) (by exact fun _ _ _ h => h) (Or.inl ⟨by rfl, ?_⟩) (hK _) ?_
        rotate_left
        · intro w hSw; (try dsimp only at hSw); go_simp; (try with_reducible rfl)
        try simp only [Act.put, List.setIfInBounds_toArray, List.set_cons_zero, List.set_cons_succ]
        refine wpAnyK_last (i := 14) (by kernel_rfl) (by simp only [List.getElem?_toArray, List.getElem?_cons_succ, List.getElem?_cons_zero]; rfl) (by kernel_rfl) (by kernel_rfl) (fun kC hkC => ?_)
        go_simp
        refine hkC.out _ _ ?_
        clear hkC kC
        try simp only [Act.put, List.setIfInBounds_toArray, List.set_cons_zero, List.set_cons_succ]
        refine wpAnyK_done (by kernel_rfl) ?_ _
        generalize ((((w5.setCell ⟨C, t * 5, none⟩ (.int .i64 t3)).setCell ⟨C, t * 5 + 1, none⟩ (.int .i64 l3)).setCell ⟨C, t * 5 + 2, none⟩ (.int .i64 s3)).setCell ⟨C, t * 5 + 3, none⟩ (.bool r3)).setCell ⟨C, t * 5 + 4, none⟩ (.int .i64 x3') = wz at *
        clear hc5 m5 F0 F1 F2 F3 F4 hl5 hX5 hXd x0 x1' x2' x3 x4 m0 m1 m2 m3 m4 y0 xl hK
        go_wp2_with fail
        (first | go_end0 | ((try simp only [Exit.inBlock, Exit.then]); refine bodyPost_ret (results_none rfl _ _ _) rfl ?_))
        refine ⟨rfl, by rw [HRES.out]; exact HP.out.hm, ?_, HP.out.kp⟩
        rw [HRES.out, HOO.out, HNN.out]
        dsimp only
        have h := HP.out.cr
        exact h.congr (fun _ _ => rfl) (bput_id HOD.out) (fun _ _ => rfl)
      · have HCO := Lib.hid hco
        clear hco
        have HX3 := Lib.hid HX.out; have HFT := Lib.hid HF.out; have HOD := Lib.hid HOT.out
        obtain ⟨x0, x1', x2', x3, x4⟩ := HX3.out.cr.hx.at ht HFT.out
        have y0 := HX3.out.cr.oc ht
        rw [HOD.out] at y0
        have xl := HX3.out.cr.lt
        obtain ⟨m0, m1, m2, m3, m4⟩ := mapCs HX3.out.mp
        obtain ⟨M', h', hd⟩ : ∃ M' h', wDropI M ⟨t1, l1, s1, r1, x1⟩ = (M', h') := ⟨_, _, rfl⟩
        obtain ⟨t3, l3, s3, r3, x3'⟩ := h'
        have hres : cRes M f o t read leave = (M', ⟨t3, l3, s3, r3, x3'⟩) := by unfold cRes; rw [HCO.out]; rw [if_pos rfl, HH.out]; exact hd
        have hO : cO M f o t read leave = bput o t (!decide (s3 = 0)) := by unfold cO; rw [HCO.out, hres]; rfl
        have hN : cN M f o n t read leave = if s3 = 0 then nput n t else n := by unfold cN; rw [HCO.out, hres]; simp
        have HD := Lib.hid hd; have HRES := Lib.hid hres; have HOO := Lib.hid hO; have HNN := Lib.hid hN
        clear hd hres hO hN
        go_wp2_with fail
        have hXd := HX3.out.no ((Keeps.refl NoS _).drew)
        refine wp_region_kept_drew 14 (fun w' => (w'.cell? ⟨C, t * 5, none⟩ = some (.int .i64 t1) ∧ w'.cell? ⟨C, t * 5 + 1, none⟩ = some (.int .i64 l1) ∧ w'.cell? ⟨C, t * 5 + 2, none⟩ = some (.int .i64 s1) ∧ w'.cell? ⟨C, t * 5 + 3, none⟩ = some (.bool r1) ∧ w'.cell? ⟨C, t * 5 + 4, none⟩ = some (.int .i64 x1)) ∧ (w'.cell? ⟨B, 0, none⟩ = some (.int .i64 2) ∧ w'.cell? ⟨B, 1, none⟩ = some (.int .i64 2) ∧ w'.cell? ⟨B, 2, none⟩ = some (.int .i64 4) ∧ w'.cell? ⟨B, 3, none⟩ = some (.int .i64 0) ∧ w'.cell? ⟨B, 4, none⟩ = some (.int .i64 2))) 14 (fun _ => True) (by kernel_rfl) (⟨⟨x0, x1', x2', x3, x4⟩, ⟨m0, m1, m2, m3, m4⟩⟩) (trivial) (fun hK => ?_)
        refine wpAnyK_take1 (i := 0) (v := ?_) (by simp only [List.getElem?_toArray, List.getElem?_cons_succ, List.getElem?_cons_zero]; rfl) (by kernel_rfl) (by kernel_rfl) (by kernel_rfl) (by kernel_rfl) (by kernel_rfl) (by kernel_rfl) (by exact fun _ _ _ h => h) (Or.inl ⟨by rfl, ?_⟩) (hK _) ?_
        rotate_left
        · intro w hSw; (try dsimp only at hSw); go_simp; (try with_reducible rfl)
        try simp only [Act.put, List.setIfInBounds_toArray, List.set_cons_zero, List.set_cons_succ]
        refine wpAnyK_take1 (i := 1) (v := ?_) (by simp only [List.getElem?_toArray, List.getElem?_cons_succ, List.getElem?_cons_zero]; rfl) (by kernel_rfl) (by kernel_rfl) (by kernel_rfl) (by kernel_rfl) (by kernel_rfl) (by kernel_rfl) (by exact fun _ _ _ h => h) (Or.inl ⟨by rfl, ?_⟩) (hK _) ?_
        rotate_left
        · intro w hSw; (try dsimp only at hSw); go_simp; (try with_reducible rfl)
        try simp only [Act.put, List.setIfInBounds_toArray, List.set_cons_zero, List.set_cons_succ]
        refine wpAnyK_take1 (i := 2) (v := ?_) (by simp only [List.getElem?_toArray, List.getElem?_cons_succ, List.getElem?_cons_zero]; rfl) (by kernel_rfl) (by kernel_rfl) (by kernel_rfl) (by kernel_rfl) (by kernel_rfl) (by kernel_rfl) (by exact fun _ _ _ h => h) (Or.inl ⟨by rfl, ?_⟩) (hK _) ?_
        rotate_left
        · intro w hSw; (try dsimp only at hSw); go_simp; (try with_reducible rfl)
        try simp only [Act.put, List.setIfInBounds_toArray, List.set_cons_zero, List.set_cons_succ]
        refine wpAnyK_take1 (i := 3) (v := ?_) (by simp only [List.getElem?_toArray, List.getElem?_cons_succ, List.getElem?_cons_zero]; rfl) (by kernel_rfl) (by kernel_rfl) (by kernel_rfl) (by kernel_rfl) (by kernel_rfl) (by kernel_rfl) (by exact fun _ _ _ h => h) (Or.inl ⟨by rfl, ?_⟩) (hK _) ?_
        rotate_left
        · intro w hSw; (try dsimp only at hSw); go_simp; (try with_reducible rfl)
        try simp only [Act.put, List.setIfInBounds_toArray, List.set_cons_zero, List.set_cons_succ]
        refine wpAnyK_take1 (i := 4) (v := ?_) (by simp only [List.getElem?_toArray, List.getElem?_cons_succ, List.getElem?_cons_zero]; rfl) (by kernel_rfl) (by kernel_rfl) (by kernel_rfl) (by kernel_rfl) (by kernel_rfl) (by kernel_rfl) (by exact fun _ _ _ h => h) (Or.inl ⟨by rfl, ?_⟩) (hK _) ?_
        rotate_left
        · intro w hSw; (try dsimp only at hSw); go_simp; (try with_reducible rfl)
        try simp only [Act.put, List.setIfInBounds_toArray, List.set_cons_zero, List.set_cons_succ]
        refine wpAnyK_take1 (i := 5) (v := ?_) (by simp only [List.getElem?_toArray, List.getElem?_cons_succ, List.getElem?_cons_zero]; rfl) (by kernel_rfl) (by kernel_rfl) (by kernel_rfl) (by kernel_rfl) (by kernel_rfl) (by kernel_rfl) (by exact fun _ _ _ h => h) (Or.inl ⟨by rfl, ?_⟩) (hK _) ?_
        rotate_left
        · intro w hSw; (try dsimp only at hSw); go_simp; (try with_reducible rfl)
        try simp only [Act.put, List.setIfInBounds_toArray, List.set_cons_zero, List.set_cons_succ]
        refine wpAnyK_take1 (i := 6) (v := ?_) (by simp only [List.getElem?_toArray, List.getElem?_cons_succ, List.getElem?_cons_zero]; rfl) (by kernel_rfl) (by kernel_rfl) (by kernel_rfl) (by kernel_rfl) (by kernel_rfl) (by kernel_rfl) (by exact fun _ _ _ h => h) (Or.inl ⟨by rfl, ?_⟩) (hK _) ?_
        rotate_left
        · intro w hSw; (try dsimp only at hSw); go_simp; (try with_reducible rfl)
        try simp only [Act.put, List.setIfInBounds_toArray, List.set_cons_zero, List.set_cons_succ]
        refine wpAnyK_take1 (i := 7) (v := ?_) (by simp only [List.getElem?_toArray, List.getElem?_cons_succ, List.getElem?_cons_zero]; rfl) (by kernel_rfl) (by kernel_rfl) (by kernel_rfl) (by kernel_rfl) (by kernel_rfl) (by kernel_rfl) (by exact fun _ _ _ h => h) (Or.inl ⟨by rfl, ?_⟩) (hK _) ?_
        rotate_left
        · intro w hSw; (try dsimp only at hSw); go_simp; (try with_reducible rfl)
        try simp only [Act.put, List.setIfInBounds_toArray, List.set_cons_zero, List.set_cons_succ]
        refine wpAnyK_take1 (i := 8) (v := ?_) (by simp only [List.getElem?_toArray, List.getElem?_cons_succ, List.getElem?_cons_zero]; rfl) (by kernel_rfl) (by kernel_rfl) (by kernel_rfl) (by kernel_rfl) (by kernel_rfl) (by kernel_rfl) (by exact fun _ _ _ h => h) (Or.inl ⟨by rfl, ?_⟩) (hK _) ?_
        rotate_left
        · intro w hSw; (try dsimp only at hSw); go_simp; (try with_reducible rfl)
        try simp only [Act.put, List.setIfInBounds_toArray, List.set_cons_zero, List.set_cons_succ]
        refine wpAnyK_take1 (i := 9) (v := ?_) (by simp only [List.getElem?_toArray, List.getElem?_cons_succ, List.getElem?_cons_zero]; rfl) (by kernel_rfl) (by kernel_rfl) (by kernel_rfl) (by kernel_rfl) (by kernel_rfl) (by kernel_rfl) (by exact fun _ _ _ h => h) (Or.inl ⟨by rfl, ?_⟩) (hK _) ?_
        rotate_left
        · intro w hSw; (try dsimp only at hSw); go_simp; (try with_reducible rfl)
        try simp only [Act.put, List.setIfInBounds_toArray, List.set_cons_zero, List.set_cons_succ]
        refine wpAnyK_takeT (i := 11) (v := ?_) (by simp only [List.getElem?_toArray, List.getElem?_cons_succ, List.getElem?_cons_zero]; rfl) (by kernel_rfl) (by kernel_rfl) (by kernel_rfl) (by kernel_rfl) (by kernel_rfl) (by exact fun _ _ _ h => h) (Or.inl ⟨by rfl, ?_⟩) (hK _) ?_
        rotate_left
        · intro w hSw; (try dsimp only at hSw); go_simp; (try with_reducible rfl)
        try simp only [Act.put, List.setIfInBounds_toArray, List.set_cons_zero, List.set_cons_succ]
        refine wpAnyK_takeT (i := 12) (v := ?_) (by simp only [List.getElem?_toArray, List.getElem?_cons_succ, List.getElem?_cons_zero]; rfl) (by kernel_rfl) (by kernel_rfl) (by kernel_rfl) (by kernel_rfl) (by kernel_rfl) (by exact fun _ _ _ h => h) (Or.inl ⟨by rfl, ?_⟩) (hK _) ?_
        rotate_left
        · intro w hSw; (try dsimp only at hSw); go_simp; (try with_reducible rfl)
        try simp only [Act.put, List.setIfInBounds_toArray, List.set_cons_zero, List.set_cons_succ]
        refine wpAnyK_one (i := 10) (by kernel_rfl) (by simp only [List.getElem?_toArray, List.getElem?_cons_succ, List.getElem?_cons_zero]; rfl) (fun kC hkC => ?_)
        go_simp
        refine (rwdrop8_any t1 l1 s1 r1 x1 a v M _ hXd.hm HL.out).mono ?_; rw [HD.out]; unfold handV; dsimp only; rintro e w5 ⟨rfl, hm, hk⟩; have hX5 := hXd.turn HO.out hm hk; have m5 := mapCs hX5.mp; have hc5 := hX5.cr.hx.at ht HFT.out; obtain ⟨F0, F1, F2, F3, F4⟩ := hX5.cr.hx.frees t; have hl5 := hX5.cr.lt; have hP := hX5.hand HO.out ht ⟨t3, l3, s3, r3, x3'⟩; unfold setH at hP; dsimp only at hP; have HP := Lib.hid hP; clear hP hm hk
        (try go_wp2_with fail)
        refine hkC.out _ _ (⟨hc5, m5⟩) (trivial) (fun hK => ?_)
        clear hkC kC
        try simp only [Act.put, List.setIfInBounds_toArray, List.set_cons_zero, List.set_cons_succ]
        refine wpAnyK_take1 (i := 13) (v := ?_) (by simp only [List.getElem?_toArray, List.getElem?_cons_succ, List.getElem?_cons_zero]; rfl) (by kernel_rfl) (by kernel_rfl) (by kernel_rfl) (by kernel_rfl) (by kernel_rfl) (by kernel_rfl) (by exact fun _ _ _ h => h) (Or.inl ⟨by rfl, ?_⟩) (hK _) ?_
        rotate_left
        · intro w hSw; (try dsimp only at hSw); go_simp; (try with_reducible rfl)
        try simp only [Act.put, List.setIfInBounds_toArray, List.set_cons_zero, List.set_cons_succ]
        refine wpAnyK_last (i := 14) (by kernel_rfl) (by simp only [List.getElem?_toArray, List.getElem?_cons_succ, List.getElem?_cons_zero]; rfl) (by kernel_rfl) (by kernel_rfl) (fun kC hkC => ?_)
        go_simp
        refine hkC.out _ _ ?_
        clear hkC kC
        try simp only [Act.put, List.setIfInBounds_toArray, List.set_cons_zero, List.set_cons_succ]
        refine wpAnyK_done (by kernel_rfl) ?_ _
        generalize ((((w5.setCell ⟨C, t * 5, none⟩ (.int .i64 t3)).setCell ⟨C, t * 5 + 1, none⟩ (.int .i64 l3)).setCell ⟨C, t * 5 + 2, none⟩ (.int .i64 s3)).setCell ⟨C, t * 5 + 3, none⟩ (.bool r3)).setCell ⟨C, t * 5 + 4, none⟩ (.int .i64 x3') = wz at *
        clear hc5 m5 F0 F1 F2 F3 F4 hl5 hX5 hXd x0 x1' x2' x3 x4 m0 m1 m2 m3 m4 y0 xl hK
        obtain ⟨x0, x1', x2', x3, x4⟩ := HP.out.cr.hx.at ht (hput_same (f := f) (t := t) (x := ⟨t3, l3, s3, r3, x3'⟩))
        by_cases e0 : s3 = 0
        · subst e0
          have hX2 := HP.out.out HO.out ht false
          have xl := HP.out.cr.lt
          have o4 := HP.out.cr.free (20 + t)
          have o3 := HP.out.cr.oc ht
          have HY := Lib.hid hX2
          clear hX2
          obtain ⟨nt, hnt⟩ : ∃ z, n t = z := ⟨_, rfl⟩
          have hnb := HNB.out
          rw [hnt] at hnb
          have HNT := Lib.hid hnt
          clear hnt
          go_upto_region 9 with fail
          generalize wz.setCell ⟨C, 20 + t, none⟩ (.bool false) = wy at *
          clear x0 x1' x2' x3 x4 xl o4 o3
          have hXd := HY.out.no ((Keeps.refl NoS _).drew)
          have hn3 := hXd.cr.nu ht
          have hn4 := hXd.cr.free (24 + t)
          have xl2 := hXd.cr.lt
          have HP4 := Lib.hid ((HY.out.count HO.out ht).no ((Keeps.refl NoS _).drew))
          rw [HNT.out] at hn3 HP4
          refine wp_region_kept_drew 10 (fun w' => w'.cell? ⟨C, 24 + t, none⟩ = some (.int .i64 (nt : Nat))) 10 (fun _ => True) (by kernel_rfl) (hn3) (trivial) (fun hK => ?_)
          refine wpAnyK_take1 (i := 0) (v := ?_) (by simp only [List.getElem?_toArray, List.getElem?_cons_succ, List.getElem?_cons_zero]; rfl) (by kernel_rfl) (by kernel_rfl) (by kernel_rfl) (by kernel_rfl) (by kernel_rfl) (by kernel_rfl) (by exact fun _ _ _ h => h) (Or.inl ⟨by rfl, ?_⟩) (hK _) ?_
          rotate_left
          · intro w hSw; (try dsimp only at hSw); go_simp; (try with_reducible rfl)
          try simp only [Act.put, List.setIfInBounds_toArray, List.set_cons_zero, List.set_cons_succ]
          refine wpAnyK_take1 (i := 1) (v := ?_) (by simp only [List.getElem?_toArray, List.getElem?_cons_succ, List.getElem?_cons_zero]; rfl) (by kernel_rfl) (by kernel_rfl) (by kernel_rfl) (by kernel_rfl) (by kernel_rfl) (by kernel_rfl) (by exact fun _ _ _ h => h) (Or.inl ⟨by rfl, ?_⟩) (hK _) ?_
          rotate_left
          · intro w hSw; (try dsimp only at hSw); go_simp; (try with_reducible rfl)
          try simp only [Act.put, List.setIfInBounds_toArray, List.set_cons_zero, List.set_cons_succ]
          refine wpAnyK_take1 (i := 2) (v := ?_) (by simp only [List.getElem?_toArray, List.getElem?_cons_succ, List.getElem?_cons_zero]; rfl) (by kernel_rfl) (by kernel_rfl) (by kernel_rfl) (by kernel_rfl) (by kernel_rfl) (by kernel_rfl) (by exact fun _ _ _ h => h) (Or.inl ⟨by rfl, ?_⟩) (hK _) ?_
          rotate_left
          · intro w hSw; (try dsimp only at hSw); go_simp; (try with_reducible rfl)
          try simp only [Act.put, List.setIfInBounds_toArray, List.set_cons_zero, List.set_cons_succ]
          refine wpAnyK_take1 (i := 3) (v := ?_) (by simp only [List.getElem?_toArray, List.getElem?_cons_succ, List.getElem?_cons_zero]; rfl) (by kernel_rfl) (by kernel_rfl) (by kernel_rfl) (by kernel_rfl) (by kernel_rfl) (by kernel_rfl) (by exact fun _ _ _ h => h) (Or.inl ⟨by rfl, ?_⟩) (hK _) ?_
          rotate_left
          · intro w hSw; (try dsimp only at hSw); go_simp; (try with_reducible rfl)
          try simp only [Act.put, List.setIfInBounds_toArray, List.set_cons_zero, List.set_cons_succ]
          refine wpAnyK_take1 (i := 4) (v := ?_) (by simp only [List.getElem?_toArray, List.getElem?_cons_succ, List.getElem?_cons_zero]; rfl) (by kernel_rfl) (by kernel_rfl) (by kernel_rfl) (by kernel_rfl) (by kernel_rfl) (by kernel_rfl) (by exact fun _ _ _ h => h) (Or.inl ⟨by rfl, ?_⟩) (hK _) ?_
          rotate_left
          · intro w hSw; (try dsimp only at hSw); go_simp; (try with_reducible rfl)
          try simp only [Act.put, List.setIfInBounds_toArray, List.set_cons_zero, List.set_cons_succ]
          refine wpAnyK_take1 (i := 5) (v := ?_) (by simp only [List.getElem?_toArray, List.getElem?_cons_succ, List.getElem?_cons_zero]; rfl) (by kernel_rfl) (by kernel_rfl) (by kernel_rfl) (by kernel_rfl) (by kernel_rfl) (by kernel_rfl) (by exact fun _ _ _ h => h) (Or.inl ⟨by rfl, ?_⟩) (hK _) ?_
          rotate_left
          · intro w hSw; (try dsimp only at hSw); go_simp; (try with_reducible rfl)
          try simp only [Act.put, List.setIfInBounds_toArray, List.set_cons_zero, List.set_cons_succ]
          refine wpAnyK_take1 (i := 6) (v := ?_) (by simp only [List.getElem?_toArray, List.getElem?_cons_succ, List.getElem?_cons_zero]; rfl) (by kernel_rfl) (by kernel_rfl) (by kernel_rfl) (by kernel_rfl) (by kernel_rfl) (by kernel_rfl) (by exact fun _ _ _ h => h) (Or.inl ⟨by rfl, ?_⟩) (hK _) ?_
          rotate_left
          · intro w hSw; (try dsimp only at hSw); go_simp; (try with_reducible rfl)
          try simp only [Act.put, List.setIfInBounds_toArray, List.set_cons_zero, List.set_cons_succ]
          refine wpAnyK_takeT (i := 7) (v := ?_) (by simp only [List.getElem?_toArray, List.getElem?_cons_succ, List.getElem?_cons_zero]; rfl) (by kernel_rfl) (by kernel_rfl) (by kernel_rfl) (by kernel_rfl) (by kernel_rfl) (by exact fun _ _ _ h => h) (Or.inl ⟨by rfl, ?_⟩) (hK _) ?_
          rotate_left
          · intro w hSw; (try dsimp only at hSw); go_simp; (try with_reducible rfl)
          try simp only [Act.put, List.setIfInBounds_toArray, List.set_cons_zero, List.set_cons_succ]
          refine wpAnyK_takeT (i := 8) (v := ?_) (by simp only [List.getElem?_toArray, List.getElem?_cons_succ, List.getElem?_cons_zero]; rfl) (by kernel_rfl) (by kernel_rfl) (by kernel_rfl) (by kernel_rfl) (by kernel_rfl) (by exact fun _ _ _ h => h) (Or.inl ⟨by rfl, ?_⟩) (hK _) ?_
          rotate_left
          · intro w hSw; (try dsimp only at hSw); go_simp; (try with_reducible rfl)
          try simp only [Act.put, List.setIfInBounds_toArray, List.set_cons_zero, List.set_cons_succ]
          refine wpAnyK_take1 (i := 9) (v := ?_) (by simp only [List.getElem?_toArray, List.getElem?_cons_succ, List.getElem?_cons_zero]; rfl) (by kernel_rfl) (by kernel_rfl) (by kernel_rfl) (by kernel_rfl) (by kernel_rfl) (by kernel_rfl) (by exact fun _ _ _ h => h) (Or.inl ⟨by rfl, ?_⟩) (hK _) ?_
          rotate_left
          · intro w hSw; (try dsimp only at hSw); go_simp; (try with_reducible rfl)
          try simp only [Act.put, List.setIfInBounds_toArray, List.set_cons_zero, List.set_cons_succ]
          refine wpAnyK_last (i := 10) (by kernel_rfl) (by simp only [List.getElem?_toArray, List.getElem?_cons_succ, List.getElem?_cons_zero]; rfl) (by kernel_rfl) (by kernel_rfl) (fun kC hkC => ?_)
          go_simp
          refine hkC.out _ _ ?_
          clear hkC kC
          try simp only [Act.put, List.setIfInBounds_toArray, List.set_cons_zero, List.set_cons_succ]
          refine wpAnyK_done (by kernel_rfl) ?_ _
          go_wp2_with fail
          (first | go_end0 | ((try simp only [Exit.inBlock, Exit.then]); refine bodyPost_ret (results_none rfl _ _ _) rfl ?_))
          rw [show IntKind.i64.wrap ((nt : Int) + 1) = (nt : Int) + 1 from (first_wrap nt (by omega))]
          refine ⟨rfl, by rw [HRES.out]; exact HP4.out.hm, ?_, HP4.out.kp⟩
          rw [HRES.out, HOO.out, HNN.out]
          dsimp only
          have h := HP4.out.cr
          simpa using h
        · have e0' : (s3 == 0) = false := by simpa using e0
          have HE := Lib.hid e0
          clear e0
          go_wp2_with fail
          (first | go_end0 | ((try simp only [Exit.inBlock, Exit.then]); refine bodyPost_ret (results_none rfl _ _ _) rfl ?_))
          refine ⟨rfl, by rw [HRES.out]; exact HP.out.hm, ?_, HP.out.kp⟩
          rw [HRES.out, HOO.out, HNN.out]
          dsimp only
          have h := HP.out.cr
          rw [if_neg HE.out]
          have e : (!decide (s3 = 0)) = true := by simpa using HE.out
          rw [e]
          exact h.congr (fun _ _ => rfl) (bput_id HOD.out) (fun _ _ => rfl)

set_option maxHeartbeats 4000000 in
set_option maxRecDepth 100000 in
theorem held10_any (C : Nat) (f : Nat → HandS) (o : Nat → Bool) (n : Nat → Nat) (w : World) (hC : CrowdAt w C f o n) :
    Calls Try.prog 39 #[.pointer (some ⟨C, 0, none⟩)] w fun e w' => e = .returned (.tuple #[.int .i64 (hwN f 4 : Nat), .int .i64 (hrN f 4 : Nat)]) ∧ Keeps NoS w w' := by
  have HX := Lib.hid hC
  clear hC
  go_enter Try.func39, Try.ntmps39
  go_wp2_with fail
  go_loopw [4, 5, 6] (fun av bv kv wq => ∃ j : Nat, j ≤ 4 ∧ av = .int .i64 (hwN f j : Nat) ∧ bv = .int .i64 (hrN f j : Nat) ∧ kv = .int .i64 j ∧ Keeps NoS w wq) (fun _ _ kv _ => 4 - (intOf kv).toNat)
  case atStart => exact ⟨0, by omega, rfl, rfl, rfl, Keeps.refl _ _⟩
  case round =>
    obtain ⟨j, hj, rfl, rfl, rfl, hkq⟩ := hrel
    have hle := hN_le f j
    have HKQ := Lib.hid hkq
    by_cases hj4 : j < 4
    · have j0 : (0 : Int) ≤ (j : Int) := by omega
      have j4 : (j : Int) < 4 := by omega
      have hs1 : hwN f (j + 1) = hwN f j + if (f j).s = 9 ∧ (f j).r = false then 1 else 0 := rfl
      have hs2 : hrN f (j + 1) = hrN f j + if (f j).s = 9 ∧ (f j).r = true then 1 else 0 := rfl
      obtain ⟨x0, x1, x2, x3, x4⟩ := (HX.out.keep hkq (fun f => f)).hx.cell j hj4
      have xl := (HX.out.keep hkq (fun f => f)).lt
      obtain ⟨sj, hsj⟩ : ∃ z, (f j).s = z := ⟨_, rfl⟩
      obtain ⟨rj, hrj⟩ : ∃ z, (f j).r = z := ⟨_, rfl⟩
      rw [hsj, hrj] at hs1 hs2
      rw [hsj] at x2
      rw [hrj] at x3
      have HS1 := Lib.hid hs1; have HS2 := Lib.hid hs2
      clear hs1 hs2 hsj hrj x0 x1 x4 hkq
      generalize hwN f j = ca at *
      generalize hrN f j = cb at *
      have hc4 : (ca : Int) ≤ 4 := by omega
      have hd4 : (cb : Int) ≤ 4 := by omega
      by_cases h9 : sj = 9
      · subst h9
        cases rj
        · go_wp2_with fail
          go_roundw
          case rel => exact ⟨j + 1, by omega, (by rw [HS1.out]; simp), (by rw [HS2.out]; simp), by go_num, HKQ.out⟩
          case measure => simp [intOf]; omega
        · go_wp2_with fail
          go_roundw
          case rel => exact ⟨j + 1, by omega, (by rw [HS1.out]; simp), (by rw [HS2.out]; simp), by go_num, HKQ.out⟩
          case measure => simp [intOf]; omega
      · have h9' : (sj == 9) = false := by simpa using h9
        go_wp2_with fail
        go_roundw
        case rel => exact ⟨j + 1, by omega, (by rw [HS1.out, if_neg (fun e => h9 e.1)]; rfl), (by rw [HS2.out, if_neg (fun e => h9 e.1)]; rfl), by go_num, HKQ.out⟩
        case measure => simp [intOf]; omega
    · obtain rfl : j = 4 := by omega
      go_wp2_with fail
      go_ret2
      exact ⟨rfl, HKQ.out⟩
end Go.Proofs.Ytchgfdfdkcijnaa
