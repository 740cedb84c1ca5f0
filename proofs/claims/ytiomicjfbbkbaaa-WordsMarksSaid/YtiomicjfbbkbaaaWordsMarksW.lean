/- The walk of WordsMarks. -/
import Derived.Test.YtiomicjfbbkbaaaWordsLaws
import Derived.Test.YtiomicjfbbkbaaaMapI
import Derived.Deep.DeepCutAuto
import Derived.BigQuiet
import Derived.Deep.QuietTactic
namespace Go.Proofs.Ytiomicjfbbkbaaa
open Go.RowKit
theorem held_lit' (ms ml mt mc md l a v : Int) (b : Bool) (h : heldB ⟨ms, ml, mt, mc, md⟩ l a v = b) (w : World) : Calls Try.prog 20 #[.agg #[.int .i64 ms, .int .i64 ml, .int .i64 mt, .int .i64 mc, .int .i64 md], .int .i64 l, .int .i64 a, .int .i64 v] w fun e w' => e = .returned (.bool b) ∧ Keeps NoS w w' := by
  subst h; exact held_any ⟨ms, ml, mt, mc, md⟩ l a v w
theorem zeroL (w : World) : (zeroValue 2).run Try.prog w = .ok (.int .i64 0) w := by kernel_rfl
theorem watch8 : watchL ⟨2, 2, 4, 0, 2⟩ 0 true false = [8, 9] := by decide
theorem held8 (v : Int) (b : Bool) (h : (v % 2 != 0) = b) : heldB ⟨2, 2, 4, 0, 2⟩ 0 8 v = b := by
  subst h
  have e4 : lockP ⟨2, 2, 4, 0, 2⟩ 0 4 = 8 := by decide
  have e5 : lockP ⟨2, 2, 4, 0, 2⟩ 0 5 = 9 := by decide
  unfold heldB; rw [e4, e5, Bool.eq_iff_iff]; simp
theorem held9 (v : Int) (b : Bool) (h : (v % 64 != 0) = b) : heldB ⟨2, 2, 4, 0, 2⟩ 0 9 v = b := by
  subst h
  have e4 : lockP ⟨2, 2, 4, 0, 2⟩ 0 4 = 8 := by decide
  have e5 : lockP ⟨2, 2, 4, 0, 2⟩ 0 5 = 9 := by decide
  unfold heldB; rw [e4, e5, Bool.eq_iff_iff]; simp
theorem mark_lit' (a b : Bool) (x y : Int) (h1 : markP ⟨2, 2, 4, 0, 2⟩ 0 a b = x) (h2 : markN ⟨2, 2, 4, 0, 2⟩ 0 a b = y) (w : World) : Calls Try.prog 17 #[.agg #[.int .i64 2, .int .i64 2, .int .i64 4, .int .i64 0, .int .i64 2], .int .i64 0, .bool a, .bool b] w fun e w' => e = .returned (.tuple #[.int .i64 x, .int .i64 y]) ∧ Keeps NoS w w' := by
  subst h1; subst h2; exact mark_any ⟨2, 2, 4, 0, 2⟩ 0 a b w
/-- the words after a readers came, of whom r are there, and wc writers, of whom one is there if b -/
structure WM (w wr : World) (B g bm : Nat) (n a wc r : Nat) (b : Bool) (f : Int → Int) : Prop where
  mp : MapAt wr B 2 2 4 0 2
  g0 : wr.cell? ⟨g, 0, none⟩ = some (.int .i64 8)
  g1 : wr.cell? ⟨g, 1, none⟩ = some (.int .i64 9)
  mi : MapI Try.prog 3 2 wr bm n f
  f8 : f 8 = 2 * (wc : Int) - (if b then 1 else 0)
  f9 : f 9 = 64 * (a : Int) + r
  nb : w.heap.size ≤ bm
  B1 : B ≠ bm
  G1 : g ≠ bm
  kp : Keeps NoS w wr
  r4 : r ≤ 4
  ra : r ≤ a
  bw : b = true → 1 ≤ wc
theorem WM.keep {w wr w' : World} {B g bm n a wc r : Nat} {b : Bool} {f : Int → Int} (h : WM w wr B g bm n a wc r b f) (k : Keeps NoS wr w') : WM w w' B g bm n a wc r b f :=
  ⟨h.mp.keep k, k.cell h.g0 (fun f => f), k.cell h.g1 (fun f => f), h.mi.keep k, h.f8, h.f9, h.nb, h.B1, h.G1, h.kp.trans k, h.r4, h.ra, h.bw⟩
theorem WM.put {w wr w' : World} {B g bm n a wc r : Nat} {b : Bool} {f : Int → Int} {k y : Int} {a' wc' r' : Nat} {b' : Bool} (h : WM w wr B g bm n a wc r b f) (hm : MapI Try.prog 3 2 w' bm (n + 1) (fun j => if j = k then y else f j)) (hg : wr.grownBy w' (some bm))
    (h8 : (if (8 : Int) = k then y else f 8) = 2 * (wc' : Int) - (if b' then 1 else 0)) (h9 : (if (9 : Int) = k then y else f 9) = 64 * (a' : Int) + r') (h4 : r' ≤ 4) (ha : r' ≤ a') (hb : b' = true → 1 ≤ wc') : WM w w' B g bm (n + 1) a' wc' r' b' (fun j => if j = k then y else f j) := by
  have hk : Keeps (fun i => i = bm) wr w' := ⟨hg.os, hg.tape, hg.output, hg.size, fun i hi hs => hg.block i hi (fun e => hs (by simpa using e))⟩
  refine ⟨⟨hk.cell h.mp.1 h.B1, hk.cell h.mp.2.1 h.B1, hk.cell h.mp.2.2.1 h.B1, hk.cell h.mp.2.2.2.1 h.B1, hk.cell h.mp.2.2.2.2 h.B1⟩, hk.cell h.g0 h.G1, hk.cell h.g1 h.G1, hm, h8, h9, h.nb, h.B1, h.G1, h.kp.trans' hk (fun i hi e => by have := h.nb; omega), h4, ha, hb⟩
theorem WM.sp {w wr : World} {B g bm n a wc r : Nat} {b : Bool} {f : Int → Int} (h : WM w wr B g bm n a wc r b f) (w' : World) (k : Keeps NoS wr w') : (MapAt w' B 2 2 4 0 2) ∧ w'.cell? ⟨g, 0, none⟩ = some (.int .i64 8) ∧ w'.cell? ⟨g, 1, none⟩ = some (.int .i64 9) ∧ (Instr.lookup 46 (.map (some bm)) (.int .i64 8) false).run Try.prog w' = .ok (.int .i64 (f 8)) w' ∧ (Instr.lookup 46 (.map (some bm)) (.int .i64 9) false).run Try.prog w' = .ok (.int .i64 (f 9)) w' :=
  ⟨h.mp.keep k, k.cell h.g0 (fun f => f), k.cell h.g1 (fun f => f), (h.mi.keep k).look Try.underlying3 Try.underlying2 Try.underlying46 (zeroL _) 8 (by decide), (h.mi.keep k).look Try.underlying3 Try.underlying2 Try.underlying46 (zeroL _) 9 (by decide)⟩
theorem WM.h8 {w wr : World} {B g bm n a wc r : Nat} {b : Bool} {f : Int → Int} (h : WM w wr B g bm n a wc r b f) : (f 8 % 2 != 0) = b := by
  rw [h.f8]; cases b
  · rw [Bool.eq_false_iff]; simp
  · rw [bne_iff_ne]; simp only [if_true]; omega
theorem WM.h9 {w wr : World} {B g bm n a wc r : Nat} {b : Bool} {f : Int → Int} (h : WM w wr B g bm n a wc r b f) : (f 9 % 64 != 0) = decide (0 < r) := by
  rw [h.f9, Bool.eq_iff_iff, bne_iff_ne, decide_eq_true_eq]; have := h.r4; omega
theorem WM.z8 {w wr : World} {B g bm n a wc r : Nat} {b : Bool} {f : Int → Int} (h : WM w wr B g bm n a wc r b f) : (f 8 == 0) = decide (wc = 0) := by
  rw [h.f8, Bool.eq_iff_iff, beq_iff_eq, decide_eq_true_eq]; have := h.bw
  cases b
  · simp only [Bool.false_eq_true, if_false]; omega
  · have := this rfl; simp only [if_true]; omega
theorem WM.z9 {w wr : World} {B g bm n a wc r : Nat} {b : Bool} {f : Int → Int} (h : WM w wr B g bm n a wc r b f) : (f 9 == 0) = decide (a = 0) := by
  rw [h.f9, Bool.eq_iff_iff, beq_iff_eq, decide_eq_true_eq]; have := h.ra; omega
theorem wf_small {x : Int} (h : -1000000 ≤ x) (h' : x ≤ 1000000) : (Lit.int .i64 x).wf = true := WalkArith.wf_i64 (by omega)
set_option maxHeartbeats 40000000 in
set_option maxRecDepth 100000 in
theorem wordsMarks_main (w : World) (v0 : Value) (zs : List Int) (hin : InI w v0 zs) (h60 : zs.length ≤ 60) :
    Calls Try.prog 5 #[v0] w fun e w' => e = .returned (.bool true) ∧ Keeps NoS w w' := by
  obtain ⟨p, cap, rfl, _, hcell, _⟩ := hin
  have Hc := Lib.hid hcell
  clear hcell
  have hmm := @run_makeMap Try.prog
  go_enter Try.func5, Try.ntmps5
  go_wp2_with fail
  refine (map8_any _).mono ?_
  rintro e w1 ⟨rfl, hk1⟩
  unfold mapV
  dsimp only
  go_wp2_with fail
  have hmA := mapAt_new w1 2 2 4 0 2 26
  have hk2 := hk1.alloc (.cells #[.int .i64 2, .int .i64 2, .int .i64 4, .int .i64 0, .int .i64 2] 26)
  obtain ⟨B, hB⟩ : ∃ B, w1.heap.size = B := ⟨_, rfl⟩
  rw [hB] at hmA
  rw [hB]
  have hBl : B < (w1.alloc (.cells #[.int .i64 2, .int .i64 2, .int .i64 4, .int .i64 0, .int .i64 2] 26)).heap.size := by simp; omega
  clear hB hk1
  generalize w1.alloc (.cells #[.int .i64 2, .int .i64 2, .int .i64 4, .int .i64 0, .int .i64 2] 26) = W at *
  refine (watched_lit 2 2 4 0 2 0 true false _).mono ?_
  rw [watch8]
  rintro e w3 ⟨v, rfl, hr, hk3⟩
  obtain ⟨g, cg, rfl, hg⟩ := hr.at (by simp)
  have g0 : w3.cell? ⟨g, 0, none⟩ = some (.int .i64 8) := hg 0 (by simp)
  have g1 : w3.cell? ⟨g, 1, none⟩ = some (.int .i64 9) := hg 1 (by simp)
  have hgl : g < w3.heap.size := World.block_lt_of_cell? w3 ⟨g, 0, none⟩ g0
  have hkk := hk2.trans hk3
  have hs0 := hkk.size
  have hmade := MapI.made Try.prog 3 2 w3
  have h0 : WM w (w3.alloc (.map #[] 0)) B g w3.heap.size 0 0 0 0 false (fun _ => 0) :=
    ⟨hmA.keep (hk3.alloc _), ((Keeps.refl NoS w3).alloc _).cell g0 (fun f => f), ((Keeps.refl NoS w3).alloc _).cell g1 (fun f => f), hmade, by simp, by simp, hs0, by have := hk3.size; omega, by omega, hkk.alloc _, by omega, by omega, by simp⟩
  have H0 := Lib.hid h0
  clear hr hg hmade h0 hmA hk2 hk3 hkk g0 g1 hBl
  go_wp2_with fail
  obtain ⟨bm, hbm⟩ : ∃ bm, w3.heap.size = bm := ⟨_, rfl⟩
  rw [hbm] at H0
  rw [hbm]
  clear hbm hgl hs0 hmm
  go_loopw [6, 7, 8, 9] (fun wb rd ca i wr => ∃ (k n a wc r : Nat) (b : Bool) (f : Int → Int), k ≤ zs.length ∧ n ≤ k ∧ a ≤ k ∧ wc ≤ k ∧ i = .int .i64 k ∧ wb = .bool b ∧ rd = .int .i64 r ∧ ca = .int .i64 ((a : Int) + wc) ∧ WM w wr B g bm n a wc r b f) (fun _ _ _ i _ => zs.length - (intOf i).toNat)
  case atStart => exact ⟨0, 0, 0, 0, 0, false, _, by omega, by omega, by omega, by omega, rfl, rfl, rfl, rfl, H0.out⟩
  case round =>
    clear H0
    obtain ⟨k, n, a, wc, r, b, f, hk, hn, ha, hwc, rfl, rfl, rfl, rfl, hW⟩ := hrel
    have HW := Lib.hid hW
    have hr4 := hW.r4
    have hra := hW.ra
    by_cases hlt : k < zs.length
    · obtain ⟨b0, off, rfl, hc⟩ := Hc.out (fun e => by rw [e] at hlt; exact absurd hlt (by simp))
      have e0 := hc k hlt
      have d0 := hW.kp.cell e0 (fun f => f)
      clear hc
      generalize zs.getD k 0 = z at *
      have hz0' : 0 ≤ IntKind.u64.wrap z := by rw [IntKind.wrap_u64]; omega
      obtain ⟨Z, hZ⟩ : ∃ Z, IntKind.u64.wrap z = Z := ⟨_, rfl⟩
      have hz0 : 0 ≤ Z := by omega
      clear hz0'
      clear hW
      obtain ⟨rb, hrb⟩ : ∃ rb, (Z % 2 == 0) = rb := ⟨_, rfl⟩
      obtain ⟨lb, hlb⟩ : ∃ lb, ((IntKind.u64.wrap (Z.tdiv 2)).tmod 2 == 0) = lb := ⟨_, rfl⟩
      skip
      cases rb with
      | false =>
        cases b with
        | false =>
          by_cases hr0 : r = 0
          · subst hr0
            
            have hW := HW.out
            have f8 := hW.f8
            have f9 := hW.f9
            have hbw := hW.bw
            obtain ⟨c8, hc8⟩ : ∃ c, f 8 = c := ⟨_, rfl⟩
            obtain ⟨c9, hc9⟩ : ∃ c, f 9 = c := ⟨_, rfl⟩
            rw [hc8] at f8
            rw [hc9] at f9
            simp only [if_true, if_false, Bool.false_eq_true, true_implies, false_implies] at f8 f9 hbw
            have HC8 := Lib.hid hc8; have HC9 := Lib.hid hc9
            have i8 : 0 ≤ c8 ∧ c8 ≤ 200 := by omega
            have i9 : 0 ≤ c9 ∧ c9 ≤ 10000 := by omega
            have hy : (Lit.int .i64 (c8 + 1)).wf = true := wf_small (by omega) (by omega)
            have HY := Lib.hid hy; have F8 := Lib.hid f8; have F9 := Lib.hid f9; have HBW := Lib.hid hbw
            obtain ⟨i81, i82⟩ := i8
            obtain ⟨i91, i92⟩ := i9
            obtain ⟨m0, m1, m2, m3, m4⟩ := hW.mp
            clear hc8 hc9 hW hy f8 f9 hbw
            go_wp2_with (first
              | (go_at_call 17; refine (mark_lit' false false 8 (1) (by decide) (by decide) _).mono ?_; rintro e w4 ⟨rfl, hk4⟩; have hW4 := HW.out.keep hk4; have lk := hW4.mi.look Try.underlying3 Try.underlying2 Try.underlying46 (zeroL _) 8 (by decide); rw [HC8.out] at lk)
              | (at_mapUpdate; refine wpList_put_mapI _ rfl _ _ _ 46 rfl 3 2 Try.underlying3 Try.underlying2 Try.underlying46 bm n f rfl hW4.mi (by unfold maxLen; omega) 8 (c8 + 1) rfl rfl (by decide) HY.out ?_; intro w5 hm5 hg5; have hW5 := hW4.put (a' := a) (wc' := (wc + 1)) (r' := 0) (b' := true) hm5 hg5 (by have h8 := F8.out; have h9 := F9.out; have e8 := HC8.out; have e9 := HC9.out; simp <;> omega) (by have h8 := F8.out; have h9 := F9.out; have e8 := HC8.out; have e9 := HC9.out; simp <;> omega) (by omega) (by omega) (by have := HBW.out; simp <;> omega)))
            
            clear lk m0 m1 m2 m3 m4
            obtain ⟨f1, hW6⟩ : ∃ f1, WM w w5 B g bm (n + 1) a (wc + 1) 0 true f1 := ⟨_, hW5⟩
            have hh8 := hW6.h8
            have hh9 : (f1 9 % 64 != 0) = decide ((0 : Int) < 0) := hW6.h9.trans (decide_eq_decide.2 (by omega))
            have hsp := fun W hk => hW6.sp W hk
            obtain ⟨v8, hv8⟩ : ∃ v, f1 8 = v := ⟨_, rfl⟩
            obtain ⟨v9, hv9⟩ : ∃ v, f1 9 = v := ⟨_, rfl⟩
            rw [hv8] at hh8 hsp
            rw [hv9] at hh9 hsp
            have H8 := Lib.hid hh8; have H9 := Lib.hid hh9; have hS5 := hsp w5.drew ((Keeps.refl NoS w5).drew); have HSP := Lib.hid hsp; have HW6 := Lib.hid hW6
            clear hh8 hh9 hsp hv8 hv9 hW5 hW6 hm5 hW4
            go_wp2_with fail
            go_region_held3 (fun w' => (w'.cell? ⟨B, 0, none⟩ = some (.int .i64 2) ∧ w'.cell? ⟨B, 1, none⟩ = some (.int .i64 2) ∧ w'.cell? ⟨B, 2, none⟩ = some (.int .i64 4) ∧ w'.cell? ⟨B, 3, none⟩ = some (.int .i64 0) ∧ w'.cell? ⟨B, 4, none⟩ = some (.int .i64 2)) ∧ w'.cell? ⟨g, 0, none⟩ = some (.int .i64 8) ∧ w'.cell? ⟨g, 1, none⟩ = some (.int .i64 9) ∧ (Instr.lookup 46 (.map (some bm)) (.int .i64 8) false).run Try.prog w' = .ok (.int .i64 v8) w' ∧ (Instr.lookup 46 (.map (some bm)) (.int .i64 9) false).run Try.prog w' = .ok (.int .i64 v9) w') (first | exact hS5 | exact hS6 | exact hS7) (first
              | (go_at_call 20; (with_reducible refine (held_lit' 2 2 4 0 2 0 8 v8 _ (held8 v8 _ H8.out) _).mono ?_); rintro e w6 ⟨rfl, hk6⟩; have hS6 := HSP.out _ (((Keeps.refl NoS w5).drew).trans hk6))
              | (go_at_call 20; (with_reducible refine (held_lit' 2 2 4 0 2 0 9 v9 _ (held9 v9 _ H9.out) _).mono ?_); rintro e w7 ⟨rfl, hk7⟩; have hS7 := HSP.out _ ((((Keeps.refl NoS w5).drew).trans hk6).trans hk7)))
            
            clear hS5 hS6 hS7
            go_wp2_with fail
            go_roundw
            case rel => exact ⟨k + 1, n + 1, a, (wc + 1), 0, true, f1, by omega, by omega, by omega, by omega, by go_num, rfl, congrArg (Value.int .i64) (by omega), congrArg (Value.int .i64) (by omega), HW6.out.keep ((((Keeps.refl NoS w5).drew).trans hk6).trans hk7)⟩
            case measure => simp [intOf]; omega
          · have hrp : 0 < r := by omega
            go_wp2_with fail
            go_roundw
            case rel => exact ⟨k + 1, n, a, wc, _, _, f, by omega, by omega, by omega, by omega, by go_num, rfl, rfl, rfl, HW.out⟩
            case measure => simp [intOf]; omega
        | true =>
          
          have hW := HW.out
          have f8 := hW.f8
          have f9 := hW.f9
          have hbw := hW.bw
          obtain ⟨c8, hc8⟩ : ∃ c, f 8 = c := ⟨_, rfl⟩
          obtain ⟨c9, hc9⟩ : ∃ c, f 9 = c := ⟨_, rfl⟩
          rw [hc8] at f8
          rw [hc9] at f9
          simp only [if_true, if_false, Bool.false_eq_true, true_implies, false_implies] at f8 f9 hbw
          have HC8 := Lib.hid hc8; have HC9 := Lib.hid hc9
          have i8 : 0 ≤ c8 ∧ c8 ≤ 200 := by omega
          have i9 : 0 ≤ c9 ∧ c9 ≤ 10000 := by omega
          have hy : (Lit.int .i64 (c8 + 1)).wf = true := wf_small (by omega) (by omega)
          have HY := Lib.hid hy; have F8 := Lib.hid f8; have F9 := Lib.hid f9; have HBW := Lib.hid hbw
          obtain ⟨i81, i82⟩ := i8
          obtain ⟨i91, i92⟩ := i9
          obtain ⟨m0, m1, m2, m3, m4⟩ := hW.mp
          clear hc8 hc9 hW hy f8 f9 hbw
          go_wp2_with (first
            | (go_at_call 17; refine (mark_lit' false true 8 (1) (by decide) (by decide) _).mono ?_; rintro e w4 ⟨rfl, hk4⟩; have hW4 := HW.out.keep hk4; have lk := hW4.mi.look Try.underlying3 Try.underlying2 Try.underlying46 (zeroL _) 8 (by decide); rw [HC8.out] at lk)
            | (at_mapUpdate; refine wpList_put_mapI _ rfl _ _ _ 46 rfl 3 2 Try.underlying3 Try.underlying2 Try.underlying46 bm n f rfl hW4.mi (by unfold maxLen; omega) 8 (c8 + 1) rfl rfl (by decide) HY.out ?_; intro w5 hm5 hg5; have hW5 := hW4.put (a' := a) (wc' := wc) (r' := r) (b' := false) hm5 hg5 (by have h8 := F8.out; have h9 := F9.out; have e8 := HC8.out; have e9 := HC9.out; simp <;> omega) (by have h8 := F8.out; have h9 := F9.out; have e8 := HC8.out; have e9 := HC9.out; simp <;> omega) (by omega) (by omega) (by have := HBW.out; simp <;> omega)))
          
          clear lk m0 m1 m2 m3 m4
          obtain ⟨f1, hW6⟩ : ∃ f1, WM w w5 B g bm (n + 1) a wc r false f1 := ⟨_, hW5⟩
          have hh8 := hW6.h8
          have hh9 : (f1 9 % 64 != 0) = decide ((0 : Int) < (r : Int)) := hW6.h9.trans (decide_eq_decide.2 (by omega))
          have hsp := fun W hk => hW6.sp W hk
          obtain ⟨v8, hv8⟩ : ∃ v, f1 8 = v := ⟨_, rfl⟩
          obtain ⟨v9, hv9⟩ : ∃ v, f1 9 = v := ⟨_, rfl⟩
          rw [hv8] at hh8 hsp
          rw [hv9] at hh9 hsp
          have H8 := Lib.hid hh8; have H9 := Lib.hid hh9; have hS5 := hsp w5.drew ((Keeps.refl NoS w5).drew); have HSP := Lib.hid hsp; have HW6 := Lib.hid hW6
          clear hh8 hh9 hsp hv8 hv9 hW5 hW6 hm5 hW4
          go_wp2_with fail
          go_region_held3 (fun w' => (w'.cell? ⟨B, 0, none⟩ = some (.int .i64 2) ∧ w'.cell? ⟨B, 1, none⟩ = some (.int .i64 2) ∧ w'.cell? ⟨B, 2, none⟩ = some (.int .i64 4) ∧ w'.cell? ⟨B, 3, none⟩ = some (.int .i64 0) ∧ w'.cell? ⟨B, 4, none⟩ = some (.int .i64 2)) ∧ w'.cell? ⟨g, 0, none⟩ = some (.int .i64 8) ∧ w'.cell? ⟨g, 1, none⟩ = some (.int .i64 9) ∧ (Instr.lookup 46 (.map (some bm)) (.int .i64 8) false).run Try.prog w' = .ok (.int .i64 v8) w' ∧ (Instr.lookup 46 (.map (some bm)) (.int .i64 9) false).run Try.prog w' = .ok (.int .i64 v9) w') (first | exact hS5 | exact hS6 | exact hS7) (first
            | (go_at_call 20; (with_reducible refine (held_lit' 2 2 4 0 2 0 8 v8 _ (held8 v8 _ H8.out) _).mono ?_); rintro e w6 ⟨rfl, hk6⟩; have hS6 := HSP.out _ (((Keeps.refl NoS w5).drew).trans hk6))
            | (go_at_call 20; (with_reducible refine (held_lit' 2 2 4 0 2 0 9 v9 _ (held9 v9 _ H9.out) _).mono ?_); rintro e w7 ⟨rfl, hk7⟩; have hS7 := HSP.out _ ((((Keeps.refl NoS w5).drew).trans hk6).trans hk7)))
          
          clear hS5 hS6 hS7
          go_wp2_with fail
          go_roundw
          case rel => exact ⟨k + 1, n + 1, a, wc, r, false, f1, by omega, by omega, by omega, by omega, by go_num, rfl, congrArg (Value.int .i64) (by omega), congrArg (Value.int .i64) (by omega), HW6.out.keep ((((Keeps.refl NoS w5).drew).trans hk6).trans hk7)⟩
          case measure => simp [intOf]; omega
      | true =>
        by_cases hr0 : r = 0
        · subst hr0
          cases b with
          | false =>
            
            have hW := HW.out
            have f8 := hW.f8
            have f9 := hW.f9
            have hbw := hW.bw
            obtain ⟨c8, hc8⟩ : ∃ c, f 8 = c := ⟨_, rfl⟩
            obtain ⟨c9, hc9⟩ : ∃ c, f 9 = c := ⟨_, rfl⟩
            rw [hc8] at f8
            rw [hc9] at f9
            simp only [if_true, if_false, Bool.false_eq_true, true_implies, false_implies] at f8 f9 hbw
            have HC8 := Lib.hid hc8; have HC9 := Lib.hid hc9
            have i8 : 0 ≤ c8 ∧ c8 ≤ 200 := by omega
            have i9 : 0 ≤ c9 ∧ c9 ≤ 10000 := by omega
            have hy : (Lit.int .i64 (c9 + 65)).wf = true := wf_small (by omega) (by omega)
            have HY := Lib.hid hy; have F8 := Lib.hid f8; have F9 := Lib.hid f9; have HBW := Lib.hid hbw
            obtain ⟨i81, i82⟩ := i8
            obtain ⟨i91, i92⟩ := i9
            obtain ⟨m0, m1, m2, m3, m4⟩ := hW.mp
            clear hc8 hc9 hW hy f8 f9 hbw
            go_wp2_with (first
              | (go_at_call 17; refine (mark_lit' true false 9 (65) (by decide) (by decide) _).mono ?_; rintro e w4 ⟨rfl, hk4⟩; have hW4 := HW.out.keep hk4; have lk := hW4.mi.look Try.underlying3 Try.underlying2 Try.underlying46 (zeroL _) 9 (by decide); rw [HC9.out] at lk)
              | (at_mapUpdate; refine wpList_put_mapI _ rfl _ _ _ 46 rfl 3 2 Try.underlying3 Try.underlying2 Try.underlying46 bm n f rfl hW4.mi (by unfold maxLen; omega) 9 (c9 + 65) rfl rfl (by decide) HY.out ?_; intro w5 hm5 hg5; have hW5 := hW4.put (a' := (a + 1)) (wc' := wc) (r' := 1) (b' := false) hm5 hg5 (by have h8 := F8.out; have h9 := F9.out; have e8 := HC8.out; have e9 := HC9.out; simp <;> omega) (by have h8 := F8.out; have h9 := F9.out; have e8 := HC8.out; have e9 := HC9.out; simp <;> omega) (by omega) (by omega) (by have := HBW.out; simp <;> omega)))
            
            clear lk m0 m1 m2 m3 m4
            obtain ⟨f1, hW6⟩ : ∃ f1, WM w w5 B g bm (n + 1) (a + 1) wc 1 false f1 := ⟨_, hW5⟩
            have hh8 := hW6.h8
            have hh9 : (f1 9 % 64 != 0) = decide ((0 : Int) < (0 : Int) + 1) := hW6.h9.trans (decide_eq_decide.2 (by omega))
            have hsp := fun W hk => hW6.sp W hk
            obtain ⟨v8, hv8⟩ : ∃ v, f1 8 = v := ⟨_, rfl⟩
            obtain ⟨v9, hv9⟩ : ∃ v, f1 9 = v := ⟨_, rfl⟩
            rw [hv8] at hh8 hsp
            rw [hv9] at hh9 hsp
            have H8 := Lib.hid hh8; have H9 := Lib.hid hh9; have hS5 := hsp w5.drew ((Keeps.refl NoS w5).drew); have HSP := Lib.hid hsp; have HW6 := Lib.hid hW6
            clear hh8 hh9 hsp hv8 hv9 hW5 hW6 hm5 hW4
            go_wp2_with fail
            go_region_held3 (fun w' => (w'.cell? ⟨B, 0, none⟩ = some (.int .i64 2) ∧ w'.cell? ⟨B, 1, none⟩ = some (.int .i64 2) ∧ w'.cell? ⟨B, 2, none⟩ = some (.int .i64 4) ∧ w'.cell? ⟨B, 3, none⟩ = some (.int .i64 0) ∧ w'.cell? ⟨B, 4, none⟩ = some (.int .i64 2)) ∧ w'.cell? ⟨g, 0, none⟩ = some (.int .i64 8) ∧ w'.cell? ⟨g, 1, none⟩ = some (.int .i64 9) ∧ (Instr.lookup 46 (.map (some bm)) (.int .i64 8) false).run Try.prog w' = .ok (.int .i64 v8) w' ∧ (Instr.lookup 46 (.map (some bm)) (.int .i64 9) false).run Try.prog w' = .ok (.int .i64 v9) w') (first | exact hS5 | exact hS6 | exact hS7) (first
              | (go_at_call 20; (with_reducible refine (held_lit' 2 2 4 0 2 0 8 v8 _ (held8 v8 _ H8.out) _).mono ?_); rintro e w6 ⟨rfl, hk6⟩; have hS6 := HSP.out _ (((Keeps.refl NoS w5).drew).trans hk6))
              | (go_at_call 20; (with_reducible refine (held_lit' 2 2 4 0 2 0 9 v9 _ (held9 v9 _ H9.out) _).mono ?_); rintro e w7 ⟨rfl, hk7⟩; have hS7 := HSP.out _ ((((Keeps.refl NoS w5).drew).trans hk6).trans hk7)))
            
            clear hS5 hS6 hS7
            go_wp2_with fail
            go_roundw
            case rel => exact ⟨k + 1, n + 1, (a + 1), wc, 1, false, f1, by omega, by omega, by omega, by omega, by go_num, rfl, congrArg (Value.int .i64) (by omega), congrArg (Value.int .i64) (by omega), HW6.out.keep ((((Keeps.refl NoS w5).drew).trans hk6).trans hk7)⟩
            case measure => simp [intOf]; omega
          | true =>
            go_wp2_with fail
            go_roundw
            case rel => exact ⟨k + 1, n, a, wc, _, _, f, by omega, by omega, by omega, by omega, by go_num, rfl, rfl, rfl, HW.out⟩
            case measure => simp [intOf]; omega
        · have hrp : 0 < r := by omega
          cases b with
          | true =>
            
            have hW := HW.out
            have f8 := hW.f8
            have f9 := hW.f9
            have hbw := hW.bw
            obtain ⟨c8, hc8⟩ : ∃ c, f 8 = c := ⟨_, rfl⟩
            obtain ⟨c9, hc9⟩ : ∃ c, f 9 = c := ⟨_, rfl⟩
            rw [hc8] at f8
            rw [hc9] at f9
            simp only [if_true, if_false, Bool.false_eq_true, true_implies, false_implies] at f8 f9 hbw
            have HC8 := Lib.hid hc8; have HC9 := Lib.hid hc9
            have i8 : 0 ≤ c8 ∧ c8 ≤ 200 := by omega
            have i9 : 0 ≤ c9 ∧ c9 ≤ 10000 := by omega
            have hy : (Lit.int .i64 (c9 - 1)).wf = true := wf_small (by omega) (by omega)
            have HY := Lib.hid hy; have F8 := Lib.hid f8; have F9 := Lib.hid f9; have HBW := Lib.hid hbw
            obtain ⟨i81, i82⟩ := i8
            obtain ⟨i91, i92⟩ := i9
            obtain ⟨m0, m1, m2, m3, m4⟩ := hW.mp
            clear hc8 hc9 hW hy f8 f9 hbw
            go_wp2_with (first
              | (go_at_call 17; refine (mark_lit' true true 9 (-1) (by decide) (by decide) _).mono ?_; rintro e w4 ⟨rfl, hk4⟩; have hW4 := HW.out.keep hk4; have lk := hW4.mi.look Try.underlying3 Try.underlying2 Try.underlying46 (zeroL _) 9 (by decide); rw [HC9.out] at lk)
              | (at_mapUpdate; refine wpList_put_mapI _ rfl _ _ _ 46 rfl 3 2 Try.underlying3 Try.underlying2 Try.underlying46 bm n f rfl hW4.mi (by unfold maxLen; omega) 9 (c9 - 1) rfl rfl (by decide) HY.out ?_; intro w5 hm5 hg5; have hW5 := hW4.put (a' := a) (wc' := wc) (r' := (r - 1)) (b' := true) hm5 hg5 (by have h8 := F8.out; have h9 := F9.out; have e8 := HC8.out; have e9 := HC9.out; simp <;> omega) (by have h8 := F8.out; have h9 := F9.out; have e8 := HC8.out; have e9 := HC9.out; simp <;> omega) (by omega) (by omega) (by have := HBW.out; simp <;> omega)))
            
            clear lk m0 m1 m2 m3 m4
            obtain ⟨f1, hW6⟩ : ∃ f1, WM w w5 B g bm (n + 1) a wc (r - 1) true f1 := ⟨_, hW5⟩
            have hh8 := hW6.h8
            have hh9 : (f1 9 % 64 != 0) = decide ((0 : Int) < (r : Int) - 1) := hW6.h9.trans (decide_eq_decide.2 (by omega))
            have hsp := fun W hk => hW6.sp W hk
            obtain ⟨v8, hv8⟩ : ∃ v, f1 8 = v := ⟨_, rfl⟩
            obtain ⟨v9, hv9⟩ : ∃ v, f1 9 = v := ⟨_, rfl⟩
            rw [hv8] at hh8 hsp
            rw [hv9] at hh9 hsp
            have H8 := Lib.hid hh8; have H9 := Lib.hid hh9; have hS5 := hsp w5.drew ((Keeps.refl NoS w5).drew); have HSP := Lib.hid hsp; have HW6 := Lib.hid hW6
            clear hh8 hh9 hsp hv8 hv9 hW5 hW6 hm5 hW4
            go_wp2_with fail
            go_region_held3 (fun w' => (w'.cell? ⟨B, 0, none⟩ = some (.int .i64 2) ∧ w'.cell? ⟨B, 1, none⟩ = some (.int .i64 2) ∧ w'.cell? ⟨B, 2, none⟩ = some (.int .i64 4) ∧ w'.cell? ⟨B, 3, none⟩ = some (.int .i64 0) ∧ w'.cell? ⟨B, 4, none⟩ = some (.int .i64 2)) ∧ w'.cell? ⟨g, 0, none⟩ = some (.int .i64 8) ∧ w'.cell? ⟨g, 1, none⟩ = some (.int .i64 9) ∧ (Instr.lookup 46 (.map (some bm)) (.int .i64 8) false).run Try.prog w' = .ok (.int .i64 v8) w' ∧ (Instr.lookup 46 (.map (some bm)) (.int .i64 9) false).run Try.prog w' = .ok (.int .i64 v9) w') (first | exact hS5 | exact hS6 | exact hS7) (first
              | (go_at_call 20; (with_reducible refine (held_lit' 2 2 4 0 2 0 8 v8 _ (held8 v8 _ H8.out) _).mono ?_); rintro e w6 ⟨rfl, hk6⟩; have hS6 := HSP.out _ (((Keeps.refl NoS w5).drew).trans hk6))
              | (go_at_call 20; (with_reducible refine (held_lit' 2 2 4 0 2 0 9 v9 _ (held9 v9 _ H9.out) _).mono ?_); rintro e w7 ⟨rfl, hk7⟩; have hS7 := HSP.out _ ((((Keeps.refl NoS w5).drew).trans hk6).trans hk7)))
            
            clear hS5 hS6 hS7
            go_wp2_with fail
            go_roundw
            case rel => exact ⟨k + 1, n + 1, a, wc, (r - 1), true, f1, by omega, by omega, by omega, by omega, by go_num, rfl, congrArg (Value.int .i64) (by omega), congrArg (Value.int .i64) (by omega), HW6.out.keep ((((Keeps.refl NoS w5).drew).trans hk6).trans hk7)⟩
            case measure => simp [intOf]; omega
          | false =>
            by_cases hr4' : r = 4
            · subst hr4'
              
              have hW := HW.out
              have f8 := hW.f8
              have f9 := hW.f9
              have hbw := hW.bw
              obtain ⟨c8, hc8⟩ : ∃ c, f 8 = c := ⟨_, rfl⟩
              obtain ⟨c9, hc9⟩ : ∃ c, f 9 = c := ⟨_, rfl⟩
              rw [hc8] at f8
              rw [hc9] at f9
              simp only [if_true, if_false, Bool.false_eq_true, true_implies, false_implies] at f8 f9 hbw
              have HC8 := Lib.hid hc8; have HC9 := Lib.hid hc9
              have i8 : 0 ≤ c8 ∧ c8 ≤ 200 := by omega
              have i9 : 0 ≤ c9 ∧ c9 ≤ 10000 := by omega
              have hy : (Lit.int .i64 (c9 - 1)).wf = true := wf_small (by omega) (by omega)
              have HY := Lib.hid hy; have F8 := Lib.hid f8; have F9 := Lib.hid f9; have HBW := Lib.hid hbw
              obtain ⟨i81, i82⟩ := i8
              obtain ⟨i91, i92⟩ := i9
              obtain ⟨m0, m1, m2, m3, m4⟩ := hW.mp
              clear hc8 hc9 hW hy f8 f9 hbw
              go_wp2_with (first
                | (go_at_call 17; refine (mark_lit' true true 9 (-1) (by decide) (by decide) _).mono ?_; rintro e w4 ⟨rfl, hk4⟩; have hW4 := HW.out.keep hk4; have lk := hW4.mi.look Try.underlying3 Try.underlying2 Try.underlying46 (zeroL _) 9 (by decide); rw [HC9.out] at lk)
                | (at_mapUpdate; refine wpList_put_mapI _ rfl _ _ _ 46 rfl 3 2 Try.underlying3 Try.underlying2 Try.underlying46 bm n f rfl hW4.mi (by unfold maxLen; omega) 9 (c9 - 1) rfl rfl (by decide) HY.out ?_; intro w5 hm5 hg5; have hW5 := hW4.put (a' := a) (wc' := wc) (r' := 3) (b' := false) hm5 hg5 (by have h8 := F8.out; have h9 := F9.out; have e8 := HC8.out; have e9 := HC9.out; simp <;> omega) (by have h8 := F8.out; have h9 := F9.out; have e8 := HC8.out; have e9 := HC9.out; simp <;> omega) (by omega) (by omega) (by have := HBW.out; simp <;> omega)))
              
              clear lk m0 m1 m2 m3 m4
              obtain ⟨f1, hW6⟩ : ∃ f1, WM w w5 B g bm (n + 1) a wc 3 false f1 := ⟨_, hW5⟩
              have hh8 := hW6.h8
              have hh9 : (f1 9 % 64 != 0) = decide ((0 : Int) < (4 : Int) - 1) := hW6.h9.trans (decide_eq_decide.2 (by omega))
              have hsp := fun W hk => hW6.sp W hk
              obtain ⟨v8, hv8⟩ : ∃ v, f1 8 = v := ⟨_, rfl⟩
              obtain ⟨v9, hv9⟩ : ∃ v, f1 9 = v := ⟨_, rfl⟩
              rw [hv8] at hh8 hsp
              rw [hv9] at hh9 hsp
              have H8 := Lib.hid hh8; have H9 := Lib.hid hh9; have hS5 := hsp w5.drew ((Keeps.refl NoS w5).drew); have HSP := Lib.hid hsp; have HW6 := Lib.hid hW6
              clear hh8 hh9 hsp hv8 hv9 hW5 hW6 hm5 hW4
              go_wp2_with fail
              go_region_held3 (fun w' => (w'.cell? ⟨B, 0, none⟩ = some (.int .i64 2) ∧ w'.cell? ⟨B, 1, none⟩ = some (.int .i64 2) ∧ w'.cell? ⟨B, 2, none⟩ = some (.int .i64 4) ∧ w'.cell? ⟨B, 3, none⟩ = some (.int .i64 0) ∧ w'.cell? ⟨B, 4, none⟩ = some (.int .i64 2)) ∧ w'.cell? ⟨g, 0, none⟩ = some (.int .i64 8) ∧ w'.cell? ⟨g, 1, none⟩ = some (.int .i64 9) ∧ (Instr.lookup 46 (.map (some bm)) (.int .i64 8) false).run Try.prog w' = .ok (.int .i64 v8) w' ∧ (Instr.lookup 46 (.map (some bm)) (.int .i64 9) false).run Try.prog w' = .ok (.int .i64 v9) w') (first | exact hS5 | exact hS6 | exact hS7) (first
                | (go_at_call 20; (with_reducible refine (held_lit' 2 2 4 0 2 0 8 v8 _ (held8 v8 _ H8.out) _).mono ?_); rintro e w6 ⟨rfl, hk6⟩; have hS6 := HSP.out _ (((Keeps.refl NoS w5).drew).trans hk6))
                | (go_at_call 20; (with_reducible refine (held_lit' 2 2 4 0 2 0 9 v9 _ (held9 v9 _ H9.out) _).mono ?_); rintro e w7 ⟨rfl, hk7⟩; have hS7 := HSP.out _ ((((Keeps.refl NoS w5).drew).trans hk6).trans hk7)))
              
              clear hS5 hS6 hS7
              go_wp2_with fail
              go_roundw
              case rel => exact ⟨k + 1, n + 1, a, wc, 3, false, f1, by omega, by omega, by omega, by omega, by go_num, rfl, congrArg (Value.int .i64) (by omega), congrArg (Value.int .i64) (by omega), HW6.out.keep ((((Keeps.refl NoS w5).drew).trans hk6).trans hk7)⟩
              case measure => simp [intOf]; omega
            · have hne4 : ((r : Int) == 4) = false := beq_eq_false_iff_ne.2 (by omega)
              cases lb with
              | true =>
                
                have hW := HW.out
                have f8 := hW.f8
                have f9 := hW.f9
                have hbw := hW.bw
                obtain ⟨c8, hc8⟩ : ∃ c, f 8 = c := ⟨_, rfl⟩
                obtain ⟨c9, hc9⟩ : ∃ c, f 9 = c := ⟨_, rfl⟩
                rw [hc8] at f8
                rw [hc9] at f9
                simp only [if_true, if_false, Bool.false_eq_true, true_implies, false_implies] at f8 f9 hbw
                have HC8 := Lib.hid hc8; have HC9 := Lib.hid hc9
                have i8 : 0 ≤ c8 ∧ c8 ≤ 200 := by omega
                have i9 : 0 ≤ c9 ∧ c9 ≤ 10000 := by omega
                have hy : (Lit.int .i64 (c9 - 1)).wf = true := wf_small (by omega) (by omega)
                have HY := Lib.hid hy; have F8 := Lib.hid f8; have F9 := Lib.hid f9; have HBW := Lib.hid hbw
                obtain ⟨i81, i82⟩ := i8
                obtain ⟨i91, i92⟩ := i9
                obtain ⟨m0, m1, m2, m3, m4⟩ := hW.mp
                clear hc8 hc9 hW hy f8 f9 hbw
                go_wp2_with (first
                  | (go_at_call 17; refine (mark_lit' true true 9 (-1) (by decide) (by decide) _).mono ?_; rintro e w4 ⟨rfl, hk4⟩; have hW4 := HW.out.keep hk4; have lk := hW4.mi.look Try.underlying3 Try.underlying2 Try.underlying46 (zeroL _) 9 (by decide); rw [HC9.out] at lk)
                  | (at_mapUpdate; refine wpList_put_mapI _ rfl _ _ _ 46 rfl 3 2 Try.underlying3 Try.underlying2 Try.underlying46 bm n f rfl hW4.mi (by unfold maxLen; omega) 9 (c9 - 1) rfl rfl (by decide) HY.out ?_; intro w5 hm5 hg5; have hW5 := hW4.put (a' := a) (wc' := wc) (r' := (r - 1)) (b' := false) hm5 hg5 (by have h8 := F8.out; have h9 := F9.out; have e8 := HC8.out; have e9 := HC9.out; simp <;> omega) (by have h8 := F8.out; have h9 := F9.out; have e8 := HC8.out; have e9 := HC9.out; simp <;> omega) (by omega) (by omega) (by have := HBW.out; simp <;> omega)))
                
                clear lk m0 m1 m2 m3 m4
                obtain ⟨f1, hW6⟩ : ∃ f1, WM w w5 B g bm (n + 1) a wc (r - 1) false f1 := ⟨_, hW5⟩
                have hh8 := hW6.h8
                have hh9 : (f1 9 % 64 != 0) = decide ((0 : Int) < (r : Int) - 1) := hW6.h9.trans (decide_eq_decide.2 (by omega))
                have hsp := fun W hk => hW6.sp W hk
                obtain ⟨v8, hv8⟩ : ∃ v, f1 8 = v := ⟨_, rfl⟩
                obtain ⟨v9, hv9⟩ : ∃ v, f1 9 = v := ⟨_, rfl⟩
                rw [hv8] at hh8 hsp
                rw [hv9] at hh9 hsp
                have H8 := Lib.hid hh8; have H9 := Lib.hid hh9; have hS5 := hsp w5.drew ((Keeps.refl NoS w5).drew); have HSP := Lib.hid hsp; have HW6 := Lib.hid hW6
                clear hh8 hh9 hsp hv8 hv9 hW5 hW6 hm5 hW4
                go_wp2_with fail
                go_region_held3 (fun w' => (w'.cell? ⟨B, 0, none⟩ = some (.int .i64 2) ∧ w'.cell? ⟨B, 1, none⟩ = some (.int .i64 2) ∧ w'.cell? ⟨B, 2, none⟩ = some (.int .i64 4) ∧ w'.cell? ⟨B, 3, none⟩ = some (.int .i64 0) ∧ w'.cell? ⟨B, 4, none⟩ = some (.int .i64 2)) ∧ w'.cell? ⟨g, 0, none⟩ = some (.int .i64 8) ∧ w'.cell? ⟨g, 1, none⟩ = some (.int .i64 9) ∧ (Instr.lookup 46 (.map (some bm)) (.int .i64 8) false).run Try.prog w' = .ok (.int .i64 v8) w' ∧ (Instr.lookup 46 (.map (some bm)) (.int .i64 9) false).run Try.prog w' = .ok (.int .i64 v9) w') (first | exact hS5 | exact hS6 | exact hS7) (first
                  | (go_at_call 20; (with_reducible refine (held_lit' 2 2 4 0 2 0 8 v8 _ (held8 v8 _ H8.out) _).mono ?_); rintro e w6 ⟨rfl, hk6⟩; have hS6 := HSP.out _ (((Keeps.refl NoS w5).drew).trans hk6))
                  | (go_at_call 20; (with_reducible refine (held_lit' 2 2 4 0 2 0 9 v9 _ (held9 v9 _ H9.out) _).mono ?_); rintro e w7 ⟨rfl, hk7⟩; have hS7 := HSP.out _ ((((Keeps.refl NoS w5).drew).trans hk6).trans hk7)))
                
                clear hS5 hS6 hS7
                go_wp2_with fail
                go_roundw
                case rel => exact ⟨k + 1, n + 1, a, wc, (r - 1), false, f1, by omega, by omega, by omega, by omega, by go_num, rfl, congrArg (Value.int .i64) (by omega), congrArg (Value.int .i64) (by omega), HW6.out.keep ((((Keeps.refl NoS w5).drew).trans hk6).trans hk7)⟩
                case measure => simp [intOf]; omega
              | false =>
                
                have hW := HW.out
                have f8 := hW.f8
                have f9 := hW.f9
                have hbw := hW.bw
                obtain ⟨c8, hc8⟩ : ∃ c, f 8 = c := ⟨_, rfl⟩
                obtain ⟨c9, hc9⟩ : ∃ c, f 9 = c := ⟨_, rfl⟩
                rw [hc8] at f8
                rw [hc9] at f9
                simp only [if_true, if_false, Bool.false_eq_true, true_implies, false_implies] at f8 f9 hbw
                have HC8 := Lib.hid hc8; have HC9 := Lib.hid hc9
                have i8 : 0 ≤ c8 ∧ c8 ≤ 200 := by omega
                have i9 : 0 ≤ c9 ∧ c9 ≤ 10000 := by omega
                have hy : (Lit.int .i64 (c9 + 65)).wf = true := wf_small (by omega) (by omega)
                have HY := Lib.hid hy; have F8 := Lib.hid f8; have F9 := Lib.hid f9; have HBW := Lib.hid hbw
                obtain ⟨i81, i82⟩ := i8
                obtain ⟨i91, i92⟩ := i9
                obtain ⟨m0, m1, m2, m3, m4⟩ := hW.mp
                clear hc8 hc9 hW hy f8 f9 hbw
                go_wp2_with (first
                  | (go_at_call 17; refine (mark_lit' true false 9 (65) (by decide) (by decide) _).mono ?_; rintro e w4 ⟨rfl, hk4⟩; have hW4 := HW.out.keep hk4; have lk := hW4.mi.look Try.underlying3 Try.underlying2 Try.underlying46 (zeroL _) 9 (by decide); rw [HC9.out] at lk)
                  | (at_mapUpdate; refine wpList_put_mapI _ rfl _ _ _ 46 rfl 3 2 Try.underlying3 Try.underlying2 Try.underlying46 bm n f rfl hW4.mi (by unfold maxLen; omega) 9 (c9 + 65) rfl rfl (by decide) HY.out ?_; intro w5 hm5 hg5; have hW5 := hW4.put (a' := (a + 1)) (wc' := wc) (r' := (r + 1)) (b' := false) hm5 hg5 (by have h8 := F8.out; have h9 := F9.out; have e8 := HC8.out; have e9 := HC9.out; simp <;> omega) (by have h8 := F8.out; have h9 := F9.out; have e8 := HC8.out; have e9 := HC9.out; simp <;> omega) (by omega) (by omega) (by have := HBW.out; simp <;> omega)))
                
                clear lk m0 m1 m2 m3 m4
                obtain ⟨f1, hW6⟩ : ∃ f1, WM w w5 B g bm (n + 1) (a + 1) wc (r + 1) false f1 := ⟨_, hW5⟩
                have hh8 := hW6.h8
                have hh9 : (f1 9 % 64 != 0) = decide ((0 : Int) < (r : Int) + 1) := hW6.h9.trans (decide_eq_decide.2 (by omega))
                have hsp := fun W hk => hW6.sp W hk
                obtain ⟨v8, hv8⟩ : ∃ v, f1 8 = v := ⟨_, rfl⟩
                obtain ⟨v9, hv9⟩ : ∃ v, f1 9 = v := ⟨_, rfl⟩
                rw [hv8] at hh8 hsp
                rw [hv9] at hh9 hsp
                have H8 := Lib.hid hh8; have H9 := Lib.hid hh9; have hS5 := hsp w5.drew ((Keeps.refl NoS w5).drew); have HSP := Lib.hid hsp; have HW6 := Lib.hid hW6
                clear hh8 hh9 hsp hv8 hv9 hW5 hW6 hm5 hW4
                go_wp2_with fail
                go_region_held3 (fun w' => (w'.cell? ⟨B, 0, none⟩ = some (.int .i64 2) ∧ w'.cell? ⟨B, 1, none⟩ = some (.int .i64 2) ∧ w'.cell? ⟨B, 2, none⟩ = some (.int .i64 4) ∧ w'.cell? ⟨B, 3, none⟩ = some (.int .i64 0) ∧ w'.cell? ⟨B, 4, none⟩ = some (.int .i64 2)) ∧ w'.cell? ⟨g, 0, none⟩ = some (.int .i64 8) ∧ w'.cell? ⟨g, 1, none⟩ = some (.int .i64 9) ∧ (Instr.lookup 46 (.map (some bm)) (.int .i64 8) false).run Try.prog w' = .ok (.int .i64 v8) w' ∧ (Instr.lookup 46 (.map (some bm)) (.int .i64 9) false).run Try.prog w' = .ok (.int .i64 v9) w') (first | exact hS5 | exact hS6 | exact hS7) (first
                  | (go_at_call 20; (with_reducible refine (held_lit' 2 2 4 0 2 0 8 v8 _ (held8 v8 _ H8.out) _).mono ?_); rintro e w6 ⟨rfl, hk6⟩; have hS6 := HSP.out _ (((Keeps.refl NoS w5).drew).trans hk6))
                  | (go_at_call 20; (with_reducible refine (held_lit' 2 2 4 0 2 0 9 v9 _ (held9 v9 _ H9.out) _).mono ?_); rintro e w7 ⟨rfl, hk7⟩; have hS7 := HSP.out _ ((((Keeps.refl NoS w5).drew).trans hk6).trans hk7)))
                
                clear hS5 hS6 hS7
                go_wp2_with fail
                go_roundw
                case rel => exact ⟨k + 1, n + 1, (a + 1), wc, (r + 1), false, f1, by omega, by omega, by omega, by omega, by go_num, rfl, congrArg (Value.int .i64) (by omega), congrArg (Value.int .i64) (by omega), HW6.out.keep ((((Keeps.refl NoS w5).drew).trans hk6).trans hk7)⟩
                case measure => simp [intOf]; omega
    · obtain rfl : k = zs.length := by omega
      have hS := HW.out.sp wr (Keeps.refl _ _)
      have hz8 := HW.out.z8
      have hz9 := HW.out.z9
      obtain ⟨v8, hv8⟩ : ∃ v, f 8 = v := ⟨_, rfl⟩
      obtain ⟨v9, hv9⟩ : ∃ v, f 9 = v := ⟨_, rfl⟩
      have hsp := fun W hk => HW.out.sp W hk
      rw [hv8] at hS hz8 hsp
      rw [hv9] at hS hz9 hsp
      have HSP := Lib.hid hsp
      have HK := Lib.hid hW.kp
      clear hv8 hv9 hS hsp hW hlt HW hr4 hra hn ha hwc
      have key : ∃ b8 b9 bc : Bool, (v8 == 0) = b8 ∧ (v9 == 0) = b9 ∧ ((a : Int) + (wc : Int) == 0) = bc ∧ (bc == (b8 && b9)) = true := by
        refine ⟨_, _, _, rfl, rfl, rfl, ?_⟩
        rw [hz8, hz9, beq_iff_eq, Bool.eq_iff_iff]
        simp only [beq_iff_eq, Bool.and_eq_true, decide_eq_true_eq]
        omega
      obtain ⟨b8, b9, bc, e8, e9, ec, hbc⟩ := key
      clear hz8 hz9
      cases b8 <;> cases b9 <;> cases bc
      all_goals first | (exact absurd hbc (by decide)) | skip
      all_goals
        clear hbc
        go_wp2_with (go_at_call 19; refine (told17_any _).mono ?_; rintro e w5 ⟨rfl, hk5⟩; obtain ⟨q0, q1, q2, q3, q4⟩ := HSP.out w5 hk5)
        go_ret
        exact ⟨rfl, HK.out.trans hk5⟩
set_option maxRecDepth 100000 in
theorem wordsMarks_walk (w : World) (v0 : Value) (zs : List Int) (hin : InI w v0 zs) (_f0 : ∀ k, k < zs.length → (Lit.int .i64 (zs.getD k 0)).wf = true) :
    Calls Try.prog 5 #[v0] w fun e w' => e = .returned (.bool true) ∧ Keeps NoS w w' := by
  by_cases h : zs.length ≤ 60
  · exact wordsMarks_main w v0 zs hin h
  · obtain ⟨p, cap, rfl, hmax, _, _⟩ := hin
    go_enter Try.func5, Try.ntmps5
    go_wp2_with (go_at_call 19; refine (told17_any _).mono ?_; rintro e w3 ⟨rfl, hk3⟩)
    go_ret
    exact ⟨rfl, hk3⟩
end Go.Proofs.Ytiomicjfbbkbaaa

