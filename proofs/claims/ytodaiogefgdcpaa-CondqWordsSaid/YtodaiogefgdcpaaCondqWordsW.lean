/- A row asks for words of its condition and flags alone (the walk). -/
import Derived.Test.YtodaiogefgdcpaaCondqTold
import Derived.Test.YtodaiogefgdcpaaHeld
namespace Go.Proofs.Ytodaiogefgdcpaa
open Go.RowKit
theorem fed_same (m : MapS) (r : RowS) (v : Int) : (fedR m r v).k = r.k ∧ (fedR m r v).c = r.c ∧ (fedR m r v).t = r.t := by
  unfold fedR
  repeat' split
  all_goals exact ⟨rfl, rfl, rfl⟩
theorem cond20 : (∀ c : Nat, c < 2 → ∀ p : Nat, p < 6 → condP ⟨1, 1, 4, 2, 1⟩ c p = 29 + 6 * c + p) := by
  intro c hc p hp
  match c, hc with
  | 0, _ =>
    match p, hp with
    | 0, _ => rfl
    | 1, _ => rfl
    | 2, _ => rfl
    | 3, _ => rfl
    | 4, _ => rfl
    | 5, _ => rfl
  | 1, _ =>
    match p, hp with
    | 0, _ => rfl
    | 1, _ => rfl
    | 2, _ => rfl
    | 3, _ => rfl
    | 4, _ => rfl
    | 5, _ => rfl
theorem slot20 {c : Nat} (hc : c < 2) (n : Int) : 29 + 6 * (c : Int) ≤ slotP ⟨1, 1, 4, 2, 1⟩ c n ∧ slotP ⟨1, 1, 4, 2, 1⟩ c n < 29 + 6 * (c : Int) + 6 := by
  unfold slotP
  obtain ⟨p, hp, hp6⟩ : ∃ p : Nat, 2 + n % 4 = (p : Int) ∧ p < 6 := ⟨(2 + n % 4).toNat, by omega, by omega⟩
  rw [hp, cond20 c hc p hp6]
  omega
theorem flag20_pos {i : Int} (h : 0 ≤ flagP ⟨1, 1, 4, 2, 1⟩ i) : ∃ u : Nat, u < 4 ∧ i = (u : Int) := by
  by_cases hi : 0 ≤ i ∧ i < 4
  · exact ⟨i.toNat, by omega, by omega⟩
  · unfold flagP at h
    rw [inB_not hi] at h
    simp at h
/-- what a row asks for lies in its condition, or is a flag to be written -/
theorem words_in {r : RowS} {c t : Nat} (hc : c < 2) (ht : t < 4) (e1 : r.c = c) (e2 : r.t = t) (h : ¬ (nextA ⟨1, 1, 4, 2, 1⟩ r).k = 0) :
    (29 + 6 * (c : Int) ≤ (nextA ⟨1, 1, 4, 2, 1⟩ r).at_ ∧ (nextA ⟨1, 1, 4, 2, 1⟩ r).at_ < 29 + 6 * (c : Int) + 6) ∨ ((nextA ⟨1, 1, 4, 2, 1⟩ r).k = 2 ∧ ∃ u : Nat, u < 4 ∧ (nextA ⟨1, 1, 4, 2, 1⟩ r).at_ = flagP ⟨1, 1, 4, 2, 1⟩ u) := by
  have c0 : condP ⟨1, 1, 4, 2, 1⟩ r.c 0 = 29 + 6 * (c : Int) + 0 := by rw [e1]; exact cond20 c hc 0 (by omega)
  have c1 : condP ⟨1, 1, 4, 2, 1⟩ r.c 1 = 29 + 6 * (c : Int) + 1 := by rw [e1]; exact cond20 c hc 1 (by omega)
  have sl : ∀ n, 29 + 6 * (c : Int) ≤ slotP ⟨1, 1, 4, 2, 1⟩ r.c n ∧ slotP ⟨1, 1, 4, 2, 1⟩ r.c n < 29 + 6 * (c : Int) + 6 := fun n => by rw [e1]; exact slot20 hc n
  have key : ∀ a : AskR, nextA ⟨1, 1, 4, 2, 1⟩ r = a → ¬ a.k = 0 → (29 + 6 * (c : Int) ≤ a.at_ ∧ a.at_ < 29 + 6 * (c : Int) + 6) ∨ (a.k = 2 ∧ ∃ u : Nat, u < 4 ∧ a.at_ = flagP ⟨1, 1, 4, 2, 1⟩ u) := by
    intro a ha hk
    subst ha
    unfold nextA at hk ⊢
    by_cases hf : fitsB ⟨1, 1, 4, 2, 1⟩ r = true
    · rw [if_pos hf] at hk ⊢
      by_cases k1 : r.k = 1
      · rw [if_pos k1] at hk ⊢
        unfold sleepsA at hk ⊢
        by_cases s0 : r.s = 0
        · rw [if_pos s0]; left; dsimp only; omega
        · rw [if_neg s0] at hk ⊢
          by_cases s1 : r.s = 1
          · rw [if_pos s1]; left; exact sl _
          · rw [if_neg s1] at hk ⊢
            by_cases s2 : r.s = 2
            · rw [if_pos s2]; left; dsimp only; omega
            · rw [if_neg s2] at hk ⊢
              by_cases s3 : r.s = 3
              · rw [if_pos s3]; right; exact ⟨rfl, t, ht, by dsimp only; rw [e2]⟩
              · rw [if_neg s3] at hk; exact absurd rfl hk
      · rw [if_neg k1] at hk ⊢
        by_cases k23 : r.k = 2 ∨ r.k = 3
        · rw [if_pos k23] at hk ⊢
          unfold wakesA at hk ⊢
          by_cases s0 : r.s = 0
          · rw [if_pos s0]; left; dsimp only; omega
          · rw [if_neg s0] at hk ⊢
            by_cases s1 : r.s = 1
            · rw [if_pos s1]; left; dsimp only; omega
            · rw [if_neg s1] at hk ⊢
              by_cases s2 : r.s = 2
              · rw [if_pos s2]; left; exact sl _
              · rw [if_neg s2] at hk ⊢
                by_cases s8 : r.s = 8
                · rw [if_pos s8]; left; dsimp only; omega
                · rw [if_neg s8] at hk ⊢
                  by_cases s10 : 10 ≤ r.s ∧ 0 ≤ flagP ⟨1, 1, 4, 2, 1⟩ (r.s - 10)
                  · rw [if_pos s10]; right
                    obtain ⟨u, hu, hi⟩ := flag20_pos s10.2
                    exact ⟨rfl, u, hu, by dsimp only; rw [hi]⟩
                  · rw [if_neg s10] at hk; exact absurd rfl hk
        · rw [if_neg k23] at hk; exact absurd rfl hk
    · rw [if_neg hf] at hk; exact absurd rfl hk
  exact key _ rfl h
/-- found among the first n flags -/
def flagN (x : Int) : Nat → Bool
  | 0 => false
  | n + 1 => flagN x n || (x == flagP ⟨1, 1, 4, 2, 1⟩ n)
theorem flagN_at {x : Int} {u : Nat} (h : x = flagP ⟨1, 1, 4, 2, 1⟩ u) : ∀ n, u < n → flagN x n = true
  | n + 1, hu => by
    unfold flagN
    by_cases e : u = n
    · subst e; rw [h]; simp
    · rw [flagN_at h n (by omega)]; rfl
theorem askC {w : World} {b : Nat} {T : TypeId} {x y z : Int} (h : w.heap[b]? = some (.cells #[.int .i64 x, .int .i64 y, .int .i64 z] T (0, 0))) : (w.cell? ⟨b, 0, none⟩ = some (.int .i64 x) ∧ w.cell? ⟨b, 1, none⟩ = some (.int .i64 y) ∧ w.cell? ⟨b, 2, none⟩ = some (.int .i64 z)) := ⟨by rw [blk_cell h]; rfl, by rw [blk_cell h]; rfl, by rw [blk_cell h]; rfl⟩
/-- the map and the row at hand -/
structure CW (w wr : World) (B R : Nat) (r : RowS) : Prop where
  k : Keeps NoS w wr
  b : MapAt wr B 1 1 4 2 1
  r : RowAt wr R r
theorem CW.no {w wr w' : World} {B R : Nat} {r : RowS} (h : CW w wr B R r) (k : Keeps NoS wr w') : CW w w' B R r := ⟨h.k.trans k, h.b.keep k (fun f => f), h.r.keep k (fun f => f)⟩
theorem CW.set {w wr : World} {B R : Nat} {r : RowS} (h : CW w wr B R r) (hR : w.heap.size ≤ R) (hB : B ≠ R) (q : RowS) : CW w (setR wr R q) B R q :=
  ⟨h.k.trans' (setR_keeps wr R q) (fun i hi e => by have e' : i = R := e; omega), h.b.keep (setR_keeps wr R q) hB, h.r.setR q⟩
theorem mod_bd20 (z : Int) (n : Int) (h : 0 < n) : ∃ q : Nat, (IntKind.u64.wrap z).tmod n = (q : Int) ∧ (q : Int) < n := by
  obtain ⟨h1, h2⟩ := u64_tmod_bd z n (by omega)
  exact ⟨((IntKind.u64.wrap z).tmod n).toNat, by omega, by omega⟩
set_option maxHeartbeats 40000000 in
set_option maxRecDepth 100000 in
theorem condqWords_walk (w : World) (p0 : Value) (L : List Int) (f0 : InI w p0 L) (_f1 : ∀ k, k < L.length → (Lit.int .i64 (L.getD k 0)).wf = true) (kd : Int) (_e1 : (Lit.int .i64 kd).wf = true) (cd : Int) (_e2 : (Lit.int .i64 cd).wf = true) (th : Int) (_e3 : (Lit.int .i64 th).wf = true) :
    Calls Try.prog 10 #[p0, .int .i64 kd, .int .i64 cd, .int .i64 th] w fun e w' => e = .returned (.bool true) ∧ Keeps NoS w w' := by
  obtain ⟨p, cap, rfl, hn, hc, _⟩ := f0
  have HW := Lib.hid hc
  clear hc _f1 _e1 _e2 _e3
  by_cases h30 : L.length ≤ 30
  case neg =>
    go_enter Try.func10, Try.ntmps10
    have h30' : (30 : Int) < (L.length : Int) := by omega
    go_wp2_with (go_at_call 40; refine (told20_any _).mono ?_; rintro e w1 ⟨rfl, hk1⟩)
    go_ret
    exact ⟨rfl, hk1⟩
  obtain ⟨q3, hq3, hq3'⟩ := mod_bd20 kd 3 (by omega)
  obtain ⟨C, hC, hC2⟩ := mod_bd20 cd 2 (by omega)
  obtain ⟨T, hT, hT4⟩ := mod_bd20 th 4 (by omega)
  have hCn : C < 2 := by omega
  have hTn : T < 4 := by omega
  have hst := startc_any (1 + q3) C T
  obtain ⟨⟨k0, c0, t0, s0, f0, l0⟩, hr0⟩ : ∃ r, startR (1 + q3) C T = r := ⟨_, rfl⟩
  have hs0 : (⟨k0, c0, t0, s0, f0, l0⟩ : RowS).c = C ∧ (⟨k0, c0, t0, s0, f0, l0⟩ : RowS).t = T ∧ (⟨k0, c0, t0, s0, f0, l0⟩ : RowS).s ≤ 1009 := by
    rw [← hr0]; unfold startR; exact ⟨rfl, rfl, by dsimp only; split <;> omega⟩
  rw [hr0] at hst
  unfold rowV at hst
  dsimp only at hst
  have HST := Lib.hid hst; have HS0 := Lib.hid hs0
  clear hst hs0 hr0
  go_enter Try.func10, Try.ntmps10
  go_wp2_with (go_at_call 39; refine (map20_any _).mono ?_; rintro e w1 ⟨rfl, hk1⟩)
  have hB := mapAt_new w1 1 1 4 2 1 25
  have hk1' := hk1.alloc (.cells #[.int .i64 1, .int .i64 1, .int .i64 4, .int .i64 2, .int .i64 1] 25)
  have hBl : w1.heap.size < (w1.alloc (.cells #[.int .i64 1, .int .i64 1, .int .i64 4, .int .i64 2, .int .i64 1] 25)).heap.size := by simp
  obtain ⟨B, hBe⟩ : ∃ B, w1.heap.size = B := ⟨_, rfl⟩
  have hBw : w.heap.size ≤ B := by rw [← hBe]; exact hk1.size
  rw [hBe] at hB hBl
  (try rw [hBe])
  clear hBe
  generalize w1.alloc (.cells #[.int .i64 1, .int .i64 1, .int .i64 4, .int .i64 2, .int .i64 1] 25) = W at *
  refine (HST.out _).mono ?_
  rintro e w2 ⟨rfl, hk2⟩
  go_wp2_with fail
  have hR : (w2.alloc (.cells #[.int .i64 k0, .int .i64 c0, .int .i64 t0, .int .i64 s0, .int .i64 f0, .int .i64 l0] 70)).heap[w2.heap.size]? = some (.cells #[.int .i64 k0, .int .i64 c0, .int .i64 t0, .int .i64 s0, .int .i64 f0, .int .i64 l0] 70 (0, 0)) := heap_alloc_new _ _
  have hk3 := hk2.alloc (.cells #[.int .i64 k0, .int .i64 c0, .int .i64 t0, .int .i64 s0, .int .i64 f0, .int .i64 l0] 70)
  have hcw : CW w (w2.alloc (.cells #[.int .i64 k0, .int .i64 c0, .int .i64 t0, .int .i64 s0, .int .i64 f0, .int .i64 l0] 70)) B w2.heap.size ⟨k0, c0, t0, s0, f0, l0⟩ := ⟨hk1'.trans hk3, hB.keep hk3 (fun f => f), hR⟩
  have hBR : B < w2.heap.size := Nat.lt_of_lt_of_le hBl hk2.size
  obtain ⟨R, hRe⟩ : ∃ R, w2.heap.size = R := ⟨_, rfl⟩
  rw [hRe] at hcw hBR
  (try rw [hRe])
  clear hRe hR hk3 hk1' hB hk1 hk2 hBl
  generalize w2.alloc (.cells #[.int .i64 k0, .int .i64 c0, .int .i64 t0, .int .i64 s0, .int .i64 f0, .int .i64 l0] 70) = w3 at *
  have hRw : w.heap.size ≤ R := by omega
  have HCW := Lib.hid hcw
  clear hcw
  go_loopw [13] (fun i wr => ∃ (n : Nat) (r : RowS), n ≤ L.length ∧ i = .int .i64 n ∧ CW w wr B R r ∧ r.c = C ∧ r.t = T ∧ r.s ≤ 1009) (fun i _ => L.length - (intOf i).toNat)
  case atStart => exact ⟨0, _, by omega, rfl, HCW.out, HS0.out.1, HS0.out.2.1, HS0.out.2.2⟩
  case round =>
    obtain ⟨n, r, hnl, rfl, hcw, hrc, hrt, hrs⟩ := hrel
    have hin := words_in hCn hTn hrc hrt
    obtain ⟨k, c, t, s, f, l⟩ := r
    dsimp only at hrc hrt hrs
    subst hrc; subst hrt
    have hnx := fun w => next_any 1 1 4 2 1 k C T s f l (by omega) w
    have hfd : ∀ v w, Calls Try.prog 44 #[.agg #[.int .i64 1, .int .i64 1, .int .i64 4, .int .i64 2, .int .i64 1], .agg #[.int .i64 k, .int .i64 C, .int .i64 T, .int .i64 s, .int .i64 f, .int .i64 l], .int .i64 v] w fun e w' => ∃ k' s' f' l', e = .returned (.agg #[.int .i64 k', .int .i64 C, .int .i64 T, .int .i64 s', .int .i64 f', .int .i64 l']) ∧ s' ≤ 1009 ∧ Keeps NoS w w' := by
      intro v w
      have hsm := fed_same ⟨1, 1, 4, 2, 1⟩ ⟨k, C, T, s, f, l⟩ v
      have hbd := fed_bd (m := ⟨1, 1, 4, 2, 1⟩) (r := ⟨k, C, T, s, f, l⟩) v (by decide) hrs
      refine (fed_any 1 1 4 2 1 k C T s f l v (by omega) (by decide) w).mono fun e w' h => ?_
      obtain ⟨h1, h2⟩ := h
      generalize fedR ⟨1, 1, 4, 2, 1⟩ ⟨k, C, T, s, f, l⟩ v = fr at *
      obtain ⟨k', c', t', s', f', l'⟩ := fr
      obtain ⟨_, rfl, rfl⟩ := hsm
      exact ⟨k', s', f', l', h1, hbd, h2⟩
    obtain ⟨⟨ak, aa, av⟩, hn'⟩ : ∃ q, nextA ⟨1, 1, 4, 2, 1⟩ ⟨k, C, T, s, f, l⟩ = q := ⟨_, rfl⟩
    rw [hn'] at hnx hin
    unfold askV at hnx
    dsimp only at hnx hin
    have HNX := Lib.hid hnx; have HFD := Lib.hid hfd; have HIN := Lib.hid hin; have HCn := Lib.hid hcw
    obtain ⟨⟨b0, b1, b2, b3, b4, b5⟩, ⟨p0, p1, p2, p3, p4, p5⟩, lz⟩ := hcw.r.cells
    obtain ⟨a0, a1, a2, a3, a4⟩ := hcw.b
    clear hnx hfd hin hn' hcw HCW hrs
    by_cases hlt : n < L.length
    · by_cases hk0 : ak = 0
      · subst hk0
        go_wp2_with (first
          | (go_at_call 41; refine (HNX.out _).mono ?_; rintro e w4 ⟨rfl, hk4⟩; have HC4 := Lib.hid ((HCn.out.no hk4).no ((Keeps.refl NoS w4).alloc (.cells #[.int .i64 0, .int .i64 aa, .int .i64 av] 72))))
          | (go_at_call 40; refine (told20_any _).mono ?_; rintro e w5 ⟨rfl, hk5⟩))
        go_ret
        exact ⟨rfl, HC4.out.k.trans hk5⟩
      · have hk0' : (ak == 0) = false := beq_eq_false_iff_ne.2 hk0
        have hin2 := HIN.out hk0
        have HIN2 := Lib.hid hin2
        clear hin2 hk0 HIN
        go_upto_region 11 with (go_at_call 41; refine (HNX.out _).mono ?_; rintro e w4 ⟨rfl, hk4⟩; have hAk := heap_alloc_new w4 (.cells #[.int .i64 ak, .int .i64 aa, .int .i64 av] 72); have hC4 := (HCn.out.no hk4).no ((Keeps.refl NoS w4).alloc (.cells #[.int .i64 ak, .int .i64 aa, .int .i64 av] 72)))
        obtain ⟨H, hH⟩ : ∃ H, condP ⟨1, 1, 4, 2, 1⟩ C 0 = H := ⟨_, rfl⟩
        have hHe : H = 29 + 6 * (C : Int) := by rw [← hH]; exact (cond20 C hCn 0 (by omega)).trans (by omega)
        have hin3 := HIN2.out
        rw [← hHe] at hin3
        have HIN3 := Lib.hid hin3; have HH := Lib.hid hH
        have hH0 : 0 ≤ H := by omega
        have hH1 : H ≤ 35 := by omega
        obtain ⟨Q, hQ⟩ : ∃ Q, w4.heap.size = Q := ⟨_, rfl⟩
        have hlQ : Q < (w4.alloc (.cells #[.int .i64 ak, .int .i64 aa, .int .i64 av] 72)).heap.size := by rw [← hQ]; simp
        rw [hQ] at hAk
        (try rw [hQ])
        clear hin3 hH hQ hHe HIN2 hk4 a0 a1 a2 a3 a4 b0 b1 b2 b3 b4 b5 p0 p1 p2 p3 p4 p5 lz
        generalize w4.alloc (.cells #[.int .i64 ak, .int .i64 aa, .int .i64 av] 72) = wa at *
        have hCd := hC4.no ((Keeps.refl NoS _).drew)
        have hAd := ((Keeps.refl NoS wa).drew).blk hAk (fun f => f)
        have hSa := askC hAd
        have hSb := hCd.b
        by_cases d1 : H ≤ aa
        · have d1' : decide (H ≤ aa) = true := decide_eq_true d1
          have hw6 : IntKind.i64.wrap (H + 6) = H + 6 := (IntWalk.i64_left _).trans (wrap64_id (by omega) (by omega))
          obtain ⟨q0, hq0⟩ : ∃ q0, decide (aa < H + 6) = q0 := ⟨_, rfl⟩
          have hq : q0 = true ∨ (ak = 2 ∧ ∃ u : Nat, u < 4 ∧ aa = flagP ⟨1, 1, 4, 2, 1⟩ u) := by
            rcases HIN3.out with h | h
            · left; rw [← hq0]; exact decide_eq_true h.2
            · exact .inr h
          have HQ := Lib.hid hq
          clear hq HIN3
          refine wp_region_held_drew (S := (fun w' => (w'.cell? ⟨B, 0, none⟩ = some (.int .i64 1) ∧ w'.cell? ⟨B, 1, none⟩ = some (.int .i64 1) ∧ w'.cell? ⟨B, 2, none⟩ = some (.int .i64 4) ∧ w'.cell? ⟨B, 3, none⟩ = some (.int .i64 2) ∧ w'.cell? ⟨B, 4, none⟩ = some (.int .i64 1)) ∧ (w'.cell? ⟨Q, 0, none⟩ = some (.int .i64 ak) ∧ w'.cell? ⟨Q, 1, none⟩ = some (.int .i64 aa) ∧ w'.cell? ⟨Q, 2, none⟩ = some (.int .i64 av)))) (by kernel_rfl) (⟨hSb, hSa⟩) (fun hHeld => ?_)
          refine wpAnyH_take (i := 0) (v := ?_) (by simp only [List.getElem?_toArray, List.getElem?_cons_succ, List.getElem?_cons_zero]; rfl) (by kernel_rfl) (by kernel_rfl) (by kernel_rfl) (by exact fun _ _ _ h => h) (Or.inl ⟨by rfl, ?_⟩) hHeld ?_
          rotate_left
          · intro w hSw; (try dsimp only at hSw); go_simp; (try with_reducible rfl)
          try simp only [Act.put, List.setIfInBounds_toArray, List.set_cons_zero, List.set_cons_succ]
          refine wpAnyH_take (i := 1) (v := ?_) (by simp only [List.getElem?_toArray, List.getElem?_cons_succ, List.getElem?_cons_zero]; rfl) (by kernel_rfl) (by kernel_rfl) (by kernel_rfl) (by exact fun _ _ _ h => h) (Or.inl ⟨by rfl, ?_⟩) hHeld ?_
          rotate_left
          · intro w hSw; (try dsimp only at hSw); go_simp; (try with_reducible rfl)
          try simp only [Act.put, List.setIfInBounds_toArray, List.set_cons_zero, List.set_cons_succ]
          refine wpAnyH_take (i := 2) (v := ?_) (by simp only [List.getElem?_toArray, List.getElem?_cons_succ, List.getElem?_cons_zero]; rfl) (by kernel_rfl) (by kernel_rfl) (by kernel_rfl) (by exact fun _ _ _ h => h) (Or.inl ⟨by rfl, ?_⟩) hHeld ?_
          rotate_left
          · intro w hSw; (try dsimp only at hSw); go_simp; (try with_reducible rfl)
          try simp only [Act.put, List.setIfInBounds_toArray, List.set_cons_zero, List.set_cons_succ]
          refine wpAnyH_take (i := 3) (v := ?_) (by simp only [List.getElem?_toArray, List.getElem?_cons_succ, List.getElem?_cons_zero]; rfl) (by kernel_rfl) (by kernel_rfl) (by kernel_rfl) (by exact fun _ _ _ h => h) (Or.inl ⟨by rfl, ?_⟩) hHeld ?_
          rotate_left
          · intro w hSw; (try dsimp only at hSw); go_simp; (try with_reducible rfl)
          try simp only [Act.put, List.setIfInBounds_toArray, List.set_cons_zero, List.set_cons_succ]
          refine wpAnyH_ready (rs := [4]) (by kernel_rfl) (by simp) ?_
          refine AllReadyH.cons (by simp only [List.getElem?_toArray, List.getElem?_cons_succ, List.getElem?_cons_zero]; rfl) (fun kC hkC => ?_) AllReadyH.nil
          go_simp
          refine (cond_lit 1 1 4 2 1 C 0 H HH.out _).mono ?_; rintro e w5 ⟨rfl, hk5⟩; have hC5 := hCd.no hk5; have hA5 := hk5.blk hAd (fun f => f)
          (try go_wp2_with fail)
          refine hkC.out _ _ (⟨hC5.b, askC hA5⟩) (fun hHeld => ?_)
          clear hkC kC
          try simp only [Act.put, List.setIfInBounds_toArray, List.set_cons_zero, List.set_cons_succ]
          refine wpAnyH_take (i := 5) (v := ?_) (by simp only [List.getElem?_toArray, List.getElem?_cons_succ, List.getElem?_cons_zero]; rfl) (by kernel_rfl) (by kernel_rfl) (by kernel_rfl) (by exact fun _ _ _ h => h) (Or.inl ⟨by rfl, ?_⟩) hHeld ?_
          rotate_left
          · intro w hSw; (try dsimp only at hSw); go_simp; (try with_reducible rfl)
          try simp only [Act.put, List.setIfInBounds_toArray, List.set_cons_zero, List.set_cons_succ]
          refine wpAnyH_take (i := 6) (v := ?_) (by simp only [List.getElem?_toArray, List.getElem?_cons_succ, List.getElem?_cons_zero]; rfl) (by kernel_rfl) (by kernel_rfl) (by kernel_rfl) (by exact fun _ _ _ h => h) (Or.inl ⟨by rfl, ?_⟩) hHeld ?_
          rotate_left
          · intro w hSw; (try dsimp only at hSw); go_simp; (try with_reducible rfl)
          try simp only [Act.put, List.setIfInBounds_toArray, List.set_cons_zero, List.set_cons_succ]
          refine wpAnyH_take (i := 7) (v := ?_) (by simp only [List.getElem?_toArray, List.getElem?_cons_succ, List.getElem?_cons_zero]; rfl) (by kernel_rfl) (by kernel_rfl) (by kernel_rfl) (by exact fun _ _ _ h => h) (Or.inl ⟨by rfl, ?_⟩) hHeld ?_
          rotate_left
          · intro w hSw; (try dsimp only at hSw); go_simp; (try with_reducible rfl)
          try simp only [Act.put, List.setIfInBounds_toArray, List.set_cons_zero, List.set_cons_succ]
          refine wpAnyH_take (i := 8) (v := ?_) (by simp only [List.getElem?_toArray, List.getElem?_cons_succ, List.getElem?_cons_zero]; rfl) (by kernel_rfl) (by kernel_rfl) (by kernel_rfl) (by exact fun _ _ _ h => h) (Or.inl ⟨by rfl, ?_⟩) hHeld ?_
          rotate_left
          · intro w hSw; (try dsimp only at hSw); go_simp; (try with_reducible rfl)
          try simp only [Act.put, List.setIfInBounds_toArray, List.set_cons_zero, List.set_cons_succ]
          refine wpAnyH_take (i := 9) (v := ?_) (by simp only [List.getElem?_toArray, List.getElem?_cons_succ, List.getElem?_cons_zero]; rfl) (by kernel_rfl) (by kernel_rfl) (by kernel_rfl) (by exact fun _ _ _ h => h) (Or.inl ⟨by rfl, ?_⟩) hHeld ?_
          rotate_left
          · intro w hSw; (try dsimp only at hSw); go_simp; (try with_reducible rfl)
          try simp only [Act.put, List.setIfInBounds_toArray, List.set_cons_zero, List.set_cons_succ]
          refine wpAnyH_take (i := 10) (v := ?_) (by simp only [List.getElem?_toArray, List.getElem?_cons_succ, List.getElem?_cons_zero]; rfl) (by kernel_rfl) (by kernel_rfl) (by kernel_rfl) (by exact fun _ _ _ h => h) (Or.inl ⟨by rfl, ?_⟩) hHeld ?_
          rotate_left
          · intro w hSw; (try dsimp only at hSw); go_simp; (try with_reducible rfl)
          try simp only [Act.put, List.setIfInBounds_toArray, List.set_cons_zero, List.set_cons_succ]
          refine wpAnyH_ready (rs := [11]) (by kernel_rfl) (by simp) ?_
          refine AllReadyH.cons (by simp only [List.getElem?_toArray, List.getElem?_cons_succ, List.getElem?_cons_zero]; rfl) (fun kC hkC => ?_) AllReadyH.nil
          go_simp
          refine (cond_lit 1 1 4 2 1 C 0 H HH.out _).mono ?_; rintro e w6 ⟨rfl, hk6⟩; have hC6 := hC5.no hk6; have hA6 := hk6.blk hA5 (fun f => f)
          (try go_wp2_with fail)
          refine hkC.out _ _ (⟨hC6.b, askC hA6⟩) (fun hHeld => ?_)
          clear hkC kC
          try simp only [Act.put, List.setIfInBounds_toArray, List.set_cons_zero, List.set_cons_succ]
          refine wpAnyH_take (i := 12) (v := ?_) (by simp only [List.getElem?_toArray, List.getElem?_cons_succ, List.getElem?_cons_zero]; rfl) (by kernel_rfl) (by kernel_rfl) (by kernel_rfl) (by exact fun _ _ _ h => h) (Or.inl ⟨by rfl, ?_⟩) hHeld ?_
          rotate_left
          · intro w hSw; (try dsimp only at hSw); go_simp; (try with_reducible rfl)
          try simp only [Act.put, List.setIfInBounds_toArray, List.set_cons_zero, List.set_cons_succ]
          refine wpAnyH_take (i := 13) (v := ?_) (by simp only [List.getElem?_toArray, List.getElem?_cons_succ, List.getElem?_cons_zero]; rfl) (by kernel_rfl) (by kernel_rfl) (by kernel_rfl) (by exact fun _ _ _ h => h) (Or.inl ⟨by rfl, ?_⟩) hHeld ?_
          rotate_left
          · intro w hSw; (try dsimp only at hSw); go_simp; (try with_reducible rfl)
          try simp only [Act.put, List.setIfInBounds_toArray, List.set_cons_zero, List.set_cons_succ]
          refine wpAnyH_take (i := 14) (v := ?_) (by simp only [List.getElem?_toArray, List.getElem?_cons_succ, List.getElem?_cons_zero]; rfl) (by kernel_rfl) (by kernel_rfl) (by kernel_rfl) (by exact fun _ _ _ h => h) (Or.inl ⟨by rfl, ?_⟩) hHeld ?_
          rotate_left
          · intro w hSw; (try dsimp only at hSw); go_simp; (try with_reducible rfl)
          try simp only [Act.put, List.setIfInBounds_toArray, List.set_cons_zero, List.set_cons_succ]
          refine wpAnyH_take (i := 15) (v := ?_) (by simp only [List.getElem?_toArray, List.getElem?_cons_succ, List.getElem?_cons_zero]; rfl) (by kernel_rfl) (by kernel_rfl) (by kernel_rfl) (by exact fun _ _ _ h => h) (Or.inl ⟨by rfl, ?_⟩) hHeld ?_
          rotate_left
          · intro w hSw; (try dsimp only at hSw); go_simp; (try with_reducible rfl)
          try simp only [Act.put, List.setIfInBounds_toArray, List.set_cons_zero, List.set_cons_succ]
          refine wpAnyH_done (by kernel_rfl) ?_ _
          have HCx := Lib.hid hC6; have HAx := Lib.hid hA6
          clear hHeld d1 d1' hC6 hA6 hC5 hA5 hCd hAd hSa hSb hC4 hAk
          obtain ⟨g0, hg0⟩ : ∃ g : Nat → Bool, ∀ u, g u = (q0 || (decide (ak = 2) && flagN aa u)) := ⟨_, fun _ => rfl⟩
          have hg4 : g0 4 = true := by
            rw [hg0]
            rcases HQ.out with h | ⟨h, u, hu, he⟩
            · rw [h]; rfl
            · rw [flagN_at he 4 hu, h]; simp
          have hgz : g0 0 = q0 := by rw [hg0]; unfold flagN; simp
          have hgs : ∀ u, g0 (u + 1) = (g0 u || (decide (ak = 2) && (aa == flagP ⟨1, 1, 4, 2, 1⟩ u))) := by
            intro u
            have e : flagN aa (u + 1) = (flagN aa u || (aa == flagP ⟨1, 1, 4, 2, 1⟩ u)) := rfl
            rw [hg0, hg0, e]; cases q0 <;> cases decide (ak = 2) <;> simp
          have HG4 := Lib.hid hg4; have HGS := Lib.hid hgs; have HGZ := Lib.hid hgz
          clear hg0 hg4 hgs hgz HQ
          (try rw [hq0])
          go_wp2_with fail
          go_loopw [15, 16] (fun iv uv wq => ∃ u : Nat, u ≤ 4 ∧ iv = .bool (g0 u) ∧ uv = .int .i64 u ∧ CW w wq B R ⟨k, C, T, s, f, l⟩ ∧ wq.heap[Q]? = some (.cells #[.int .i64 ak, .int .i64 aa, .int .i64 av] 72 (0, 0))) (fun _ uv _ => 4 - (intOf uv).toNat)
          case atStart => exact ⟨0, by omega, (by rw [HGZ.out]; try simp [hq0]), rfl, HCx.out, HAx.out⟩
          case round =>
            obtain ⟨u, hu, rfl, rfl, hcu, hau⟩ := hrel
            have hgu := HGS.out u
            have hgu4 : u = 4 → g0 u = true := fun e => by rw [e]; exact HG4.out
            obtain ⟨gu, hge⟩ : ∃ gu, g0 u = gu := ⟨_, rfl⟩
            rw [hge] at hgu hgu4
            (try rw [hge])
            have HGU := Lib.hid hgu
            clear hgu HCx HAx hge
            have hcd := hcu.no ((Keeps.refl NoS _).drew)
            have had := ((Keeps.refl NoS _).drew).blk hau (fun f => f)
            have hSb := hcd.b
            have hSa := askC had
            by_cases hu4 : u < 4
            · clear hgu4
              cases gu with
              | true =>
                go_wp2_with fail
                refine wp_region_held_drew (S := (fun w' => (w'.cell? ⟨B, 0, none⟩ = some (.int .i64 1) ∧ w'.cell? ⟨B, 1, none⟩ = some (.int .i64 1) ∧ w'.cell? ⟨B, 2, none⟩ = some (.int .i64 4) ∧ w'.cell? ⟨B, 3, none⟩ = some (.int .i64 2) ∧ w'.cell? ⟨B, 4, none⟩ = some (.int .i64 1)) ∧ (w'.cell? ⟨Q, 0, none⟩ = some (.int .i64 ak) ∧ w'.cell? ⟨Q, 1, none⟩ = some (.int .i64 aa) ∧ w'.cell? ⟨Q, 2, none⟩ = some (.int .i64 av)))) (by kernel_rfl) (⟨hSb, hSa⟩) (fun hHeld => ?_)
                refine wpAnyH_take (i := 0) (v := ?_) (by simp only [List.getElem?_toArray, List.getElem?_cons_succ, List.getElem?_cons_zero]; rfl) (by kernel_rfl) (by kernel_rfl) (by kernel_rfl) (by exact fun _ _ _ h => h) (Or.inl ⟨by rfl, ?_⟩) hHeld ?_
                rotate_left
                · intro w hSw; (try dsimp only at hSw); go_simp; (try with_reducible rfl)
                try simp only [Act.put, List.setIfInBounds_toArray, List.set_cons_zero, List.set_cons_succ]
                refine wpAnyH_take (i := 1) (v := ?_) (by simp only [List.getElem?_toArray, List.getElem?_cons_succ, List.getElem?_cons_zero]; rfl) (by kernel_rfl) (by kernel_rfl) (by kernel_rfl) (by exact fun _ _ _ h => h) (Or.inl ⟨by rfl, ?_⟩) hHeld ?_
                rotate_left
                · intro w hSw; (try dsimp only at hSw); go_simp; (try with_reducible rfl)
                try simp only [Act.put, List.setIfInBounds_toArray, List.set_cons_zero, List.set_cons_succ]
                refine wpAnyH_take (i := 2) (v := undef) (by simp only [List.getElem?_toArray, List.getElem?_cons_succ, List.getElem?_cons_zero]; rfl) (by kernel_rfl) (by kernel_rfl) (by kernel_rfl) (by exact fun _ _ _ h => h) (Or.inr ⟨by rfl, rfl⟩) hHeld ?_
                try simp only [Act.put, List.setIfInBounds_toArray, List.set_cons_zero, List.set_cons_succ]
                refine wpAnyH_take (i := 3) (v := undef) (by simp only [List.getElem?_toArray, List.getElem?_cons_succ, List.getElem?_cons_zero]; rfl) (by kernel_rfl) (by kernel_rfl) (by kernel_rfl) (by exact fun _ _ _ h => h) (Or.inr ⟨by rfl, rfl⟩) hHeld ?_
                try simp only [Act.put, List.setIfInBounds_toArray, List.set_cons_zero, List.set_cons_succ]
                refine wpAnyH_take (i := 4) (v := undef) (by simp only [List.getElem?_toArray, List.getElem?_cons_succ, List.getElem?_cons_zero]; rfl) (by kernel_rfl) (by kernel_rfl) (by kernel_rfl) (by exact fun _ _ _ h => h) (Or.inr ⟨by rfl, rfl⟩) hHeld ?_
                try simp only [Act.put, List.setIfInBounds_toArray, List.set_cons_zero, List.set_cons_succ]
                refine wpAnyH_take (i := 5) (v := undef) (by simp only [List.getElem?_toArray, List.getElem?_cons_succ, List.getElem?_cons_zero]; rfl) (by kernel_rfl) (by kernel_rfl) (by kernel_rfl) (by exact fun _ _ _ h => h) (Or.inr ⟨by rfl, rfl⟩) hHeld ?_
                try simp only [Act.put, List.setIfInBounds_toArray, List.set_cons_zero, List.set_cons_succ]
                refine wpAnyH_take (i := 6) (v := undef) (by simp only [List.getElem?_toArray, List.getElem?_cons_succ, List.getElem?_cons_zero]; rfl) (by kernel_rfl) (by kernel_rfl) (by kernel_rfl) (by exact fun _ _ _ h => h) (Or.inr ⟨by rfl, rfl⟩) hHeld ?_
                try simp only [Act.put, List.setIfInBounds_toArray, List.set_cons_zero, List.set_cons_succ]
                refine wpAnyH_take (i := 7) (v := undef) (by simp only [List.getElem?_toArray, List.getElem?_cons_succ, List.getElem?_cons_zero]; rfl) (by kernel_rfl) (by kernel_rfl) (by kernel_rfl) (by exact fun _ _ _ h => h) (Or.inr ⟨by rfl, rfl⟩) hHeld ?_
                try simp only [Act.put, List.setIfInBounds_toArray, List.set_cons_zero, List.set_cons_succ]
                refine wpAnyH_take (i := 8) (v := undef) (by simp only [List.getElem?_toArray, List.getElem?_cons_succ, List.getElem?_cons_zero]; rfl) (by kernel_rfl) (by kernel_rfl) (by kernel_rfl) (by exact fun _ _ _ h => h) (Or.inr ⟨by rfl, rfl⟩) hHeld ?_
                try simp only [Act.put, List.setIfInBounds_toArray, List.set_cons_zero, List.set_cons_succ]
                refine wpAnyH_take (i := 9) (v := undef) (by simp only [List.getElem?_toArray, List.getElem?_cons_succ, List.getElem?_cons_zero]; rfl) (by kernel_rfl) (by kernel_rfl) (by kernel_rfl) (by exact fun _ _ _ h => h) (Or.inr ⟨by rfl, rfl⟩) hHeld ?_
                try simp only [Act.put, List.setIfInBounds_toArray, List.set_cons_zero, List.set_cons_succ]
                refine wpAnyH_take (i := 10) (v := undef) (by simp only [List.getElem?_toArray, List.getElem?_cons_succ, List.getElem?_cons_zero]; rfl) (by kernel_rfl) (by kernel_rfl) (by kernel_rfl) (by exact fun _ _ _ h => h) (Or.inr ⟨by rfl, rfl⟩) hHeld ?_
                try simp only [Act.put, List.setIfInBounds_toArray, List.set_cons_zero, List.set_cons_succ]
                refine wpAnyH_take (i := 11) (v := undef) (by simp only [List.getElem?_toArray, List.getElem?_cons_succ, List.getElem?_cons_zero]; rfl) (by kernel_rfl) (by kernel_rfl) (by kernel_rfl) (by exact fun _ _ _ h => h) (Or.inr ⟨by rfl, rfl⟩) hHeld ?_
                try simp only [Act.put, List.setIfInBounds_toArray, List.set_cons_zero, List.set_cons_succ]
                refine wpAnyH_take (i := 12) (v := undef) (by simp only [List.getElem?_toArray, List.getElem?_cons_succ, List.getElem?_cons_zero]; rfl) (by kernel_rfl) (by kernel_rfl) (by kernel_rfl) (by exact fun _ _ _ h => h) (Or.inr ⟨by rfl, rfl⟩) hHeld ?_
                try simp only [Act.put, List.setIfInBounds_toArray, List.set_cons_zero, List.set_cons_succ]
                refine wpAnyH_take (i := 13) (v := ?_) (by simp only [List.getElem?_toArray, List.getElem?_cons_succ, List.getElem?_cons_zero]; rfl) (by kernel_rfl) (by kernel_rfl) (by kernel_rfl) (by exact fun _ _ _ h => h) (Or.inl ⟨by rfl, ?_⟩) hHeld ?_
                rotate_left
                · intro w hSw; (try dsimp only at hSw); go_simp; (try with_reducible rfl)
                try simp only [Act.put, List.setIfInBounds_toArray, List.set_cons_zero, List.set_cons_succ]
                refine wpAnyH_take (i := 14) (v := ?_) (by simp only [List.getElem?_toArray, List.getElem?_cons_succ, List.getElem?_cons_zero]; rfl) (by kernel_rfl) (by kernel_rfl) (by kernel_rfl) (by exact fun _ _ _ h => h) (Or.inl ⟨by rfl, ?_⟩) hHeld ?_
                rotate_left
                · intro w hSw; (try dsimp only at hSw); go_simp; (try with_reducible rfl)
                try simp only [Act.put, List.setIfInBounds_toArray, List.set_cons_zero, List.set_cons_succ]
                refine wpAnyH_done (by kernel_rfl) ?_ _
                go_wp2_with fail
                go_roundw
                case rel => exact ⟨u + 1, by omega, by rw [HGU.out]; rfl, by go_num, hcd, had⟩
                case measure => simp [intOf]; omega
              | false =>
                by_cases h2 : ak = 2
                · subst h2
                  obtain ⟨x, hx⟩ : ∃ x, flagP ⟨1, 1, 4, 2, 1⟩ u = x := ⟨_, rfl⟩
                  have HX := Lib.hid hx
                  clear hx
                  go_wp2_with fail
                  refine wp_region_held_drew (S := (fun w' => (w'.cell? ⟨B, 0, none⟩ = some (.int .i64 1) ∧ w'.cell? ⟨B, 1, none⟩ = some (.int .i64 1) ∧ w'.cell? ⟨B, 2, none⟩ = some (.int .i64 4) ∧ w'.cell? ⟨B, 3, none⟩ = some (.int .i64 2) ∧ w'.cell? ⟨B, 4, none⟩ = some (.int .i64 1)) ∧ (w'.cell? ⟨Q, 0, none⟩ = some (.int .i64 2) ∧ w'.cell? ⟨Q, 1, none⟩ = some (.int .i64 aa) ∧ w'.cell? ⟨Q, 2, none⟩ = some (.int .i64 av)))) (by kernel_rfl) (⟨hSb, hSa⟩) (fun hHeld => ?_)
                  refine wpAnyH_take (i := 0) (v := ?_) (by simp only [List.getElem?_toArray, List.getElem?_cons_succ, List.getElem?_cons_zero]; rfl) (by kernel_rfl) (by kernel_rfl) (by kernel_rfl) (by exact fun _ _ _ h => h) (Or.inl ⟨by rfl, ?_⟩) hHeld ?_
                  rotate_left
                  · intro w hSw; (try dsimp only at hSw); go_simp; (try with_reducible rfl)
                  try simp only [Act.put, List.setIfInBounds_toArray, List.set_cons_zero, List.set_cons_succ]
                  refine wpAnyH_take (i := 1) (v := ?_) (by simp only [List.getElem?_toArray, List.getElem?_cons_succ, List.getElem?_cons_zero]; rfl) (by kernel_rfl) (by kernel_rfl) (by kernel_rfl) (by exact fun _ _ _ h => h) (Or.inl ⟨by rfl, ?_⟩) hHeld ?_
                  rotate_left
                  · intro w hSw; (try dsimp only at hSw); go_simp; (try with_reducible rfl)
                  try simp only [Act.put, List.setIfInBounds_toArray, List.set_cons_zero, List.set_cons_succ]
                  refine wpAnyH_take (i := 2) (v := ?_) (by simp only [List.getElem?_toArray, List.getElem?_cons_succ, List.getElem?_cons_zero]; rfl) (by kernel_rfl) (by kernel_rfl) (by kernel_rfl) (by exact fun _ _ _ h => h) (Or.inl ⟨by rfl, ?_⟩) hHeld ?_
                  rotate_left
                  · intro w hSw; (try dsimp only at hSw); go_simp; (try with_reducible rfl)
                  try simp only [Act.put, List.setIfInBounds_toArray, List.set_cons_zero, List.set_cons_succ]
                  refine wpAnyH_take (i := 3) (v := ?_) (by simp only [List.getElem?_toArray, List.getElem?_cons_succ, List.getElem?_cons_zero]; rfl) (by kernel_rfl) (by kernel_rfl) (by kernel_rfl) (by exact fun _ _ _ h => h) (Or.inl ⟨by rfl, ?_⟩) hHeld ?_
                  rotate_left
                  · intro w hSw; (try dsimp only at hSw); go_simp; (try with_reducible rfl)
                  try simp only [Act.put, List.setIfInBounds_toArray, List.set_cons_zero, List.set_cons_succ]
                  refine wpAnyH_take (i := 4) (v := ?_) (by simp only [List.getElem?_toArray, List.getElem?_cons_succ, List.getElem?_cons_zero]; rfl) (by kernel_rfl) (by kernel_rfl) (by kernel_rfl) (by exact fun _ _ _ h => h) (Or.inl ⟨by rfl, ?_⟩) hHeld ?_
                  rotate_left
                  · intro w hSw; (try dsimp only at hSw); go_simp; (try with_reducible rfl)
                  try simp only [Act.put, List.setIfInBounds_toArray, List.set_cons_zero, List.set_cons_succ]
                  refine wpAnyH_take (i := 5) (v := ?_) (by simp only [List.getElem?_toArray, List.getElem?_cons_succ, List.getElem?_cons_zero]; rfl) (by kernel_rfl) (by kernel_rfl) (by kernel_rfl) (by exact fun _ _ _ h => h) (Or.inl ⟨by rfl, ?_⟩) hHeld ?_
                  rotate_left
                  · intro w hSw; (try dsimp only at hSw); go_simp; (try with_reducible rfl)
                  try simp only [Act.put, List.setIfInBounds_toArray, List.set_cons_zero, List.set_cons_succ]
                  refine wpAnyH_take (i := 6) (v := ?_) (by simp only [List.getElem?_toArray, List.getElem?_cons_succ, List.getElem?_cons_zero]; rfl) (by kernel_rfl) (by kernel_rfl) (by kernel_rfl) (by exact fun _ _ _ h => h) (Or.inl ⟨by rfl, ?_⟩) hHeld ?_
                  rotate_left
                  · intro w hSw; (try dsimp only at hSw); go_simp; (try with_reducible rfl)
                  try simp only [Act.put, List.setIfInBounds_toArray, List.set_cons_zero, List.set_cons_succ]
                  refine wpAnyH_take (i := 7) (v := ?_) (by simp only [List.getElem?_toArray, List.getElem?_cons_succ, List.getElem?_cons_zero]; rfl) (by kernel_rfl) (by kernel_rfl) (by kernel_rfl) (by exact fun _ _ _ h => h) (Or.inl ⟨by rfl, ?_⟩) hHeld ?_
                  rotate_left
                  · intro w hSw; (try dsimp only at hSw); go_simp; (try with_reducible rfl)
                  try simp only [Act.put, List.setIfInBounds_toArray, List.set_cons_zero, List.set_cons_succ]
                  refine wpAnyH_take (i := 8) (v := ?_) (by simp only [List.getElem?_toArray, List.getElem?_cons_succ, List.getElem?_cons_zero]; rfl) (by kernel_rfl) (by kernel_rfl) (by kernel_rfl) (by exact fun _ _ _ h => h) (Or.inl ⟨by rfl, ?_⟩) hHeld ?_
                  rotate_left
                  · intro w hSw; (try dsimp only at hSw); go_simp; (try with_reducible rfl)
                  try simp only [Act.put, List.setIfInBounds_toArray, List.set_cons_zero, List.set_cons_succ]
                  refine wpAnyH_take (i := 9) (v := ?_) (by simp only [List.getElem?_toArray, List.getElem?_cons_succ, List.getElem?_cons_zero]; rfl) (by kernel_rfl) (by kernel_rfl) (by kernel_rfl) (by exact fun _ _ _ h => h) (Or.inl ⟨by rfl, ?_⟩) hHeld ?_
                  rotate_left
                  · intro w hSw; (try dsimp only at hSw); go_simp; (try with_reducible rfl)
                  try simp only [Act.put, List.setIfInBounds_toArray, List.set_cons_zero, List.set_cons_succ]
                  refine wpAnyH_ready (rs := [10]) (by kernel_rfl) (by simp) ?_
                  refine AllReadyH.cons (by simp only [List.getElem?_toArray, List.getElem?_cons_succ, List.getElem?_cons_zero]; rfl) (fun kC hkC => ?_) AllReadyH.nil
                  go_simp
                  refine (flag_lit 1 1 4 2 1 u x HX.out _).mono ?_; rintro e w7 ⟨rfl, hk7⟩; have hc7 := hcd.no hk7; have ha7 := hk7.blk had (fun f => f)
                  (try go_wp2_with fail)
                  refine hkC.out _ _ (⟨hc7.b, askC ha7⟩) (fun hHeld => ?_)
                  clear hkC kC
                  try simp only [Act.put, List.setIfInBounds_toArray, List.set_cons_zero, List.set_cons_succ]
                  refine wpAnyH_take (i := 11) (v := ?_) (by simp only [List.getElem?_toArray, List.getElem?_cons_succ, List.getElem?_cons_zero]; rfl) (by kernel_rfl) (by kernel_rfl) (by kernel_rfl) (by exact fun _ _ _ h => h) (Or.inl ⟨by rfl, ?_⟩) hHeld ?_
                  rotate_left
                  · intro w hSw; (try dsimp only at hSw); go_simp; (try with_reducible rfl)
                  try simp only [Act.put, List.setIfInBounds_toArray, List.set_cons_zero, List.set_cons_succ]
                  refine wpAnyH_take (i := 12) (v := ?_) (by simp only [List.getElem?_toArray, List.getElem?_cons_succ, List.getElem?_cons_zero]; rfl) (by kernel_rfl) (by kernel_rfl) (by kernel_rfl) (by exact fun _ _ _ h => h) (Or.inl ⟨by rfl, ?_⟩) hHeld ?_
                  rotate_left
                  · intro w hSw; (try dsimp only at hSw); go_simp; (try with_reducible rfl)
                  try simp only [Act.put, List.setIfInBounds_toArray, List.set_cons_zero, List.set_cons_succ]
                  refine wpAnyH_take (i := 13) (v := ?_) (by simp only [List.getElem?_toArray, List.getElem?_cons_succ, List.getElem?_cons_zero]; rfl) (by kernel_rfl) (by kernel_rfl) (by kernel_rfl) (by exact fun _ _ _ h => h) (Or.inl ⟨by rfl, ?_⟩) hHeld ?_
                  rotate_left
                  · intro w hSw; (try dsimp only at hSw); go_simp; (try with_reducible rfl)
                  try simp only [Act.put, List.setIfInBounds_toArray, List.set_cons_zero, List.set_cons_succ]
                  refine wpAnyH_take (i := 14) (v := ?_) (by simp only [List.getElem?_toArray, List.getElem?_cons_succ, List.getElem?_cons_zero]; rfl) (by kernel_rfl) (by kernel_rfl) (by kernel_rfl) (by exact fun _ _ _ h => h) (Or.inl ⟨by rfl, ?_⟩) hHeld ?_
                  rotate_left
                  · intro w hSw; (try dsimp only at hSw); go_simp; (try with_reducible rfl)
                  try simp only [Act.put, List.setIfInBounds_toArray, List.set_cons_zero, List.set_cons_succ]
                  refine wpAnyH_done (by kernel_rfl) ?_ _
                  go_wp2_with fail
                  go_roundw
                  case rel => exact ⟨u + 1, by omega, by rw [HGU.out, HX.out]; rfl, by go_num, hc7, ha7⟩
                  case measure => simp [intOf]; omega
                · have h2' : (ak == 2) = false := beq_eq_false_iff_ne.2 h2
                  have hd2 : decide (ak = 2) = false := decide_eq_false h2
                  clear h2
                  go_wp2_with fail
                  refine wp_region_held_drew (S := (fun w' => (w'.cell? ⟨B, 0, none⟩ = some (.int .i64 1) ∧ w'.cell? ⟨B, 1, none⟩ = some (.int .i64 1) ∧ w'.cell? ⟨B, 2, none⟩ = some (.int .i64 4) ∧ w'.cell? ⟨B, 3, none⟩ = some (.int .i64 2) ∧ w'.cell? ⟨B, 4, none⟩ = some (.int .i64 1)) ∧ (w'.cell? ⟨Q, 0, none⟩ = some (.int .i64 ak) ∧ w'.cell? ⟨Q, 1, none⟩ = some (.int .i64 aa) ∧ w'.cell? ⟨Q, 2, none⟩ = some (.int .i64 av)))) (by kernel_rfl) (⟨hSb, hSa⟩) (fun hHeld => ?_)
                  refine wpAnyH_take (i := 0) (v := ?_) (by simp only [List.getElem?_toArray, List.getElem?_cons_succ, List.getElem?_cons_zero]; rfl) (by kernel_rfl) (by kernel_rfl) (by kernel_rfl) (by exact fun _ _ _ h => h) (Or.inl ⟨by rfl, ?_⟩) hHeld ?_
                  rotate_left
                  · intro w hSw; (try dsimp only at hSw); go_simp; (try with_reducible rfl)
                  try simp only [Act.put, List.setIfInBounds_toArray, List.set_cons_zero, List.set_cons_succ]
                  refine wpAnyH_take (i := 1) (v := ?_) (by simp only [List.getElem?_toArray, List.getElem?_cons_succ, List.getElem?_cons_zero]; rfl) (by kernel_rfl) (by kernel_rfl) (by kernel_rfl) (by exact fun _ _ _ h => h) (Or.inl ⟨by rfl, ?_⟩) hHeld ?_
                  rotate_left
                  · intro w hSw; (try dsimp only at hSw); go_simp; (try with_reducible rfl)
                  try simp only [Act.put, List.setIfInBounds_toArray, List.set_cons_zero, List.set_cons_succ]
                  refine wpAnyH_take (i := 2) (v := ?_) (by simp only [List.getElem?_toArray, List.getElem?_cons_succ, List.getElem?_cons_zero]; rfl) (by kernel_rfl) (by kernel_rfl) (by kernel_rfl) (by exact fun _ _ _ h => h) (Or.inl ⟨by rfl, ?_⟩) hHeld ?_
                  rotate_left
                  · intro w hSw; (try dsimp only at hSw); go_simp; (try with_reducible rfl)
                  try simp only [Act.put, List.setIfInBounds_toArray, List.set_cons_zero, List.set_cons_succ]
                  refine wpAnyH_take (i := 3) (v := ?_) (by simp only [List.getElem?_toArray, List.getElem?_cons_succ, List.getElem?_cons_zero]; rfl) (by kernel_rfl) (by kernel_rfl) (by kernel_rfl) (by exact fun _ _ _ h => h) (Or.inl ⟨by rfl, ?_⟩) hHeld ?_
                  rotate_left
                  · intro w hSw; (try dsimp only at hSw); go_simp; (try with_reducible rfl)
                  try simp only [Act.put, List.setIfInBounds_toArray, List.set_cons_zero, List.set_cons_succ]
                  refine wpAnyH_take (i := 4) (v := ?_) (by simp only [List.getElem?_toArray, List.getElem?_cons_succ, List.getElem?_cons_zero]; rfl) (by kernel_rfl) (by kernel_rfl) (by kernel_rfl) (by exact fun _ _ _ h => h) (Or.inl ⟨by rfl, ?_⟩) hHeld ?_
                  rotate_left
                  · intro w hSw; (try dsimp only at hSw); go_simp; (try with_reducible rfl)
                  try simp only [Act.put, List.setIfInBounds_toArray, List.set_cons_zero, List.set_cons_succ]
                  refine wpAnyH_take (i := 5) (v := ?_) (by simp only [List.getElem?_toArray, List.getElem?_cons_succ, List.getElem?_cons_zero]; rfl) (by kernel_rfl) (by kernel_rfl) (by kernel_rfl) (by exact fun _ _ _ h => h) (Or.inl ⟨by rfl, ?_⟩) hHeld ?_
                  rotate_left
                  · intro w hSw; (try dsimp only at hSw); go_simp; (try with_reducible rfl)
                  try simp only [Act.put, List.setIfInBounds_toArray, List.set_cons_zero, List.set_cons_succ]
                  refine wpAnyH_take (i := 6) (v := undef) (by simp only [List.getElem?_toArray, List.getElem?_cons_succ, List.getElem?_cons_zero]; rfl) (by kernel_rfl) (by kernel_rfl) (by kernel_rfl) (by exact fun _ _ _ h => h) (Or.inr ⟨by rfl, rfl⟩) hHeld ?_
                  try simp only [Act.put, List.setIfInBounds_toArray, List.set_cons_zero, List.set_cons_succ]
                  refine wpAnyH_take (i := 7) (v := undef) (by simp only [List.getElem?_toArray, List.getElem?_cons_succ, List.getElem?_cons_zero]; rfl) (by kernel_rfl) (by kernel_rfl) (by kernel_rfl) (by exact fun _ _ _ h => h) (Or.inr ⟨by rfl, rfl⟩) hHeld ?_
                  try simp only [Act.put, List.setIfInBounds_toArray, List.set_cons_zero, List.set_cons_succ]
                  refine wpAnyH_take (i := 8) (v := undef) (by simp only [List.getElem?_toArray, List.getElem?_cons_succ, List.getElem?_cons_zero]; rfl) (by kernel_rfl) (by kernel_rfl) (by kernel_rfl) (by exact fun _ _ _ h => h) (Or.inr ⟨by rfl, rfl⟩) hHeld ?_
                  try simp only [Act.put, List.setIfInBounds_toArray, List.set_cons_zero, List.set_cons_succ]
                  refine wpAnyH_take (i := 9) (v := undef) (by simp only [List.getElem?_toArray, List.getElem?_cons_succ, List.getElem?_cons_zero]; rfl) (by kernel_rfl) (by kernel_rfl) (by kernel_rfl) (by exact fun _ _ _ h => h) (Or.inr ⟨by rfl, rfl⟩) hHeld ?_
                  try simp only [Act.put, List.setIfInBounds_toArray, List.set_cons_zero, List.set_cons_succ]
                  refine wpAnyH_take (i := 10) (v := undef) (by simp only [List.getElem?_toArray, List.getElem?_cons_succ, List.getElem?_cons_zero]; rfl) (by kernel_rfl) (by kernel_rfl) (by kernel_rfl) (by exact fun _ _ _ h => h) (Or.inr ⟨by rfl, rfl⟩) hHeld ?_
                  try simp only [Act.put, List.setIfInBounds_toArray, List.set_cons_zero, List.set_cons_succ]
                  refine wpAnyH_take (i := 11) (v := undef) (by simp only [List.getElem?_toArray, List.getElem?_cons_succ, List.getElem?_cons_zero]; rfl) (by kernel_rfl) (by kernel_rfl) (by kernel_rfl) (by exact fun _ _ _ h => h) (Or.inr ⟨by rfl, rfl⟩) hHeld ?_
                  try simp only [Act.put, List.setIfInBounds_toArray, List.set_cons_zero, List.set_cons_succ]
                  refine wpAnyH_take (i := 12) (v := ?_) (by simp only [List.getElem?_toArray, List.getElem?_cons_succ, List.getElem?_cons_zero]; rfl) (by kernel_rfl) (by kernel_rfl) (by kernel_rfl) (by exact fun _ _ _ h => h) (Or.inl ⟨by rfl, ?_⟩) hHeld ?_
                  rotate_left
                  · intro w hSw; (try dsimp only at hSw); go_simp; (try with_reducible rfl)
                  try simp only [Act.put, List.setIfInBounds_toArray, List.set_cons_zero, List.set_cons_succ]
                  refine wpAnyH_take (i := 13) (v := ?_) (by simp only [List.getElem?_toArray, List.getElem?_cons_succ, List.getElem?_cons_zero]; rfl) (by kernel_rfl) (by kernel_rfl) (by kernel_rfl) (by exact fun _ _ _ h => h) (Or.inl ⟨by rfl, ?_⟩) hHeld ?_
                  rotate_left
                  · intro w hSw; (try dsimp only at hSw); go_simp; (try with_reducible rfl)
                  try simp only [Act.put, List.setIfInBounds_toArray, List.set_cons_zero, List.set_cons_succ]
                  refine wpAnyH_take (i := 14) (v := ?_) (by simp only [List.getElem?_toArray, List.getElem?_cons_succ, List.getElem?_cons_zero]; rfl) (by kernel_rfl) (by kernel_rfl) (by kernel_rfl) (by exact fun _ _ _ h => h) (Or.inl ⟨by rfl, ?_⟩) hHeld ?_
                  rotate_left
                  · intro w hSw; (try dsimp only at hSw); go_simp; (try with_reducible rfl)
                  try simp only [Act.put, List.setIfInBounds_toArray, List.set_cons_zero, List.set_cons_succ]
                  refine wpAnyH_done (by kernel_rfl) ?_ _
                  go_wp2_with fail
                  go_roundw
                  case rel => exact ⟨u + 1, by omega, by rw [HGU.out, hd2]; rfl, by go_num, hcd, had⟩
                  case measure => simp [intOf]; omega
            · have hgt := hgu4 (by omega)
              subst hgt
              obtain ⟨bb, off, rfl, hcs⟩ := HW.out (fun e => by rw [e] at hlt; simp at hlt)
              have cn := (hcd.k).cell (hcs n hlt) (fun f => f)
              clear hcs hgu4 hSa had hau
              generalize L.getD n 0 = z at cn
              obtain ⟨hrc, hrf, hrl⟩ := hcd.r.cells
              clear hSb
              have hlt' : (n : Int) < (L.length : Int) := by omega
              go_wp2_with fail
              refine wp_region_kept_drew 8 (fun w' => (w'.cell? ⟨B, 0, none⟩ = some (.int .i64 1) ∧ w'.cell? ⟨B, 1, none⟩ = some (.int .i64 1) ∧ w'.cell? ⟨B, 2, none⟩ = some (.int .i64 4) ∧ w'.cell? ⟨B, 3, none⟩ = some (.int .i64 2) ∧ w'.cell? ⟨B, 4, none⟩ = some (.int .i64 1)) ∧ (w'.cell? ⟨R, 0, none⟩ = some (.int .i64 k) ∧ w'.cell? ⟨R, 1, none⟩ = some (.int .i64 C) ∧ w'.cell? ⟨R, 2, none⟩ = some (.int .i64 T) ∧ w'.cell? ⟨R, 3, none⟩ = some (.int .i64 s) ∧ w'.cell? ⟨R, 4, none⟩ = some (.int .i64 f) ∧ w'.cell? ⟨R, 5, none⟩ = some (.int .i64 l)) ∧ w'.cell? ⟨bb, off + n, none⟩ = some (.int .i64 z)) 8 (fun _ => True) (by kernel_rfl) (⟨hcd.b, hrc, cn⟩) (trivial) (fun hK => ?_)
              refine wpAnyK_take1 (i := 0) (v := ?_) (by simp only [List.getElem?_toArray, List.getElem?_cons_succ, List.getElem?_cons_zero]; rfl) (by kernel_rfl) (by kernel_rfl) (by kernel_rfl) (by kernel_rfl) (by kernel_rfl) (by kernel_rfl) (by exact fun _ _ _ h => h) (Or.inl ⟨by rfl, ?_⟩) (hK _) ?_
              rotate_left
              · intro w hSw; (try dsimp only at hSw); go_simp; (try with_reducible rfl)
              try simp only [Act.put, List.setIfInBounds_toArray, List.set_cons_zero, List.set_cons_succ]
              refine wpAnyK_take1 (i := 1) (v := ?_) (by simp only [List.getElem?_toArray, List.getElem?_cons_succ, List.getElem?_cons_zero]; rfl) (by kernel_rfl) (by kernel_rfl) (by kernel_rfl) (by kernel_rfl) (by kernel_rfl) (by kernel_rfl) (by exact fun _ _ _ h => h) (Or.inl ⟨by rfl, ?_⟩) (hK _) ?_
              rotate_left
              · intro w hSw; (try dsimp only at hSw); go_simp; (try with_reducible rfl)
              try simp only [Act.put, List.setIfInBounds_toArray, List.set_cons_zero, List.set_cons_succ]
              refine wpAnyK_take1 (i := 2) (v := ?_) (by simp only [List.getElem?_toArray, List.getElem?_cons_succ, List.getElem?_cons_zero]; rfl) (by kernel_rfl) (by kernel_rfl) (by kernel_rfl) (by kernel_rfl) (by kernel_rfl) (by kernel_rfl) (by exact fun _ _ _ h => h) (Or.inl ⟨by rfl, ?_⟩) (hK _) ?_
              rotate_left
              · intro w hSw; (try dsimp only at hSw); go_simp; (try with_reducible rfl)
              try simp only [Act.put, List.setIfInBounds_toArray, List.set_cons_zero, List.set_cons_succ]
              refine wpAnyK_take1 (i := 3) (v := ?_) (by simp only [List.getElem?_toArray, List.getElem?_cons_succ, List.getElem?_cons_zero]; rfl) (by kernel_rfl) (by kernel_rfl) (by kernel_rfl) (by kernel_rfl) (by kernel_rfl) (by kernel_rfl) (by exact fun _ _ _ h => h) (Or.inl ⟨by rfl, ?_⟩) (hK _) ?_
              rotate_left
              · intro w hSw; (try dsimp only at hSw); go_simp; (try with_reducible rfl)
              try simp only [Act.put, List.setIfInBounds_toArray, List.set_cons_zero, List.set_cons_succ]
              refine wpAnyK_take1 (i := 4) (v := ?_) (by simp only [List.getElem?_toArray, List.getElem?_cons_succ, List.getElem?_cons_zero]; rfl) (by kernel_rfl) (by kernel_rfl) (by kernel_rfl) (by kernel_rfl) (by kernel_rfl) (by kernel_rfl) (by exact fun _ _ _ h => h) (Or.inl ⟨by rfl, ?_⟩) (hK _) ?_
              rotate_left
              · intro w hSw; (try dsimp only at hSw); go_simp; (try with_reducible rfl)
              try simp only [Act.put, List.setIfInBounds_toArray, List.set_cons_zero, List.set_cons_succ]
              refine wpAnyK_take1 (i := 5) (v := ?_) (by simp only [List.getElem?_toArray, List.getElem?_cons_succ, List.getElem?_cons_zero]; rfl) (by kernel_rfl) (by kernel_rfl) (by kernel_rfl) (by kernel_rfl) (by kernel_rfl) (by kernel_rfl) (by exact fun _ _ _ h => h) (Or.inl ⟨by rfl, ?_⟩) (hK _) ?_
              rotate_left
              · intro w hSw; (try dsimp only at hSw); go_simp; (try with_reducible rfl)
              try simp only [Act.put, List.setIfInBounds_toArray, List.set_cons_zero, List.set_cons_succ]
              refine wpAnyK_take1 (i := 6) (v := ?_) (by simp only [List.getElem?_toArray, List.getElem?_cons_succ, List.getElem?_cons_zero]; rfl) (by kernel_rfl) (by kernel_rfl) (by kernel_rfl) (by kernel_rfl) (by kernel_rfl) (by kernel_rfl) (by exact fun _ _ _ h => h) (Or.inl ⟨by rfl, ?_⟩) (hK _) ?_
              rotate_left
              · intro w hSw; (try dsimp only at hSw); go_simp; (try with_reducible rfl)
              try simp only [Act.put, List.setIfInBounds_toArray, List.set_cons_zero, List.set_cons_succ]
              refine wpAnyK_one (i := 7) (by kernel_rfl) (by simp only [List.getElem?_toArray, List.getElem?_cons_succ, List.getElem?_cons_zero]; rfl) (fun kC hkC => ?_)
              go_simp
              refine (HFD.out _ _).mono ?_; rintro e w8 ⟨k', s', f', l', rfl, hs', hk8⟩; have hc8 := hcd.no hk8; have cn8 := hk8.cell cn (fun f => f); obtain ⟨_, ⟨P0, P1, P2, P3, P4, P5⟩, LZ⟩ := hc8.r.cells; have hc9 := hc8.set hRw (by omega) ⟨k', C, T, s', f', l'⟩; unfold setR at hc9; dsimp only at hc9; have HC9 := Lib.hid hc9; clear hc9
              (try go_wp2_with fail)
              refine hkC.out _ _ (⟨hc8.b, hc8.r.cells.1, cn8⟩) (trivial) (fun hK => ?_)
              clear hkC kC
              try simp only [Act.put, List.setIfInBounds_toArray, List.set_cons_zero, List.set_cons_succ]
              refine wpAnyK_last (i := 8) (by kernel_rfl) (by simp only [List.getElem?_toArray, List.getElem?_cons_succ, List.getElem?_cons_zero]; rfl) (by kernel_rfl) (by kernel_rfl) (fun kC hkC => ?_)
              go_simp
              refine hkC.out _ _ ?_
              clear hkC kC
              try simp only [Act.put, List.setIfInBounds_toArray, List.set_cons_zero, List.set_cons_succ]
              refine wpAnyK_done (by kernel_rfl) ?_ _
              go_wp2_with fail
              go_roundw
              case rel => exact ⟨n + 1, ⟨k', C, T, s', f', l'⟩, by omega, by go_num, HC9.out, rfl, rfl, hs'⟩
              case measure => simp [intOf]; omega
        · have d1' : decide (H ≤ aa) = false := decide_eq_false d1
          obtain ⟨q0, hq0⟩ : ∃ q0, q0 = false := ⟨_, rfl⟩
          have hq : q0 = true ∨ (ak = 2 ∧ ∃ u : Nat, u < 4 ∧ aa = flagP ⟨1, 1, 4, 2, 1⟩ u) := by
            rcases HIN3.out with h | h
            · exact absurd h.1 d1
            · exact .inr h
          have HQ := Lib.hid hq
          clear hq HIN3
          refine wp_region_held_drew (S := (fun w' => (w'.cell? ⟨B, 0, none⟩ = some (.int .i64 1) ∧ w'.cell? ⟨B, 1, none⟩ = some (.int .i64 1) ∧ w'.cell? ⟨B, 2, none⟩ = some (.int .i64 4) ∧ w'.cell? ⟨B, 3, none⟩ = some (.int .i64 2) ∧ w'.cell? ⟨B, 4, none⟩ = some (.int .i64 1)) ∧ (w'.cell? ⟨Q, 0, none⟩ = some (.int .i64 ak) ∧ w'.cell? ⟨Q, 1, none⟩ = some (.int .i64 aa) ∧ w'.cell? ⟨Q, 2, none⟩ = some (.int .i64 av)))) (by kernel_rfl) (⟨hSb, hSa⟩) (fun hHeld => ?_)
          refine wpAnyH_take (i := 0) (v := ?_) (by simp only [List.getElem?_toArray, List.getElem?_cons_succ, List.getElem?_cons_zero]; rfl) (by kernel_rfl) (by kernel_rfl) (by kernel_rfl) (by exact fun _ _ _ h => h) (Or.inl ⟨by rfl, ?_⟩) hHeld ?_
          rotate_left
          · intro w hSw; (try dsimp only at hSw); go_simp; (try with_reducible rfl)
          try simp only [Act.put, List.setIfInBounds_toArray, List.set_cons_zero, List.set_cons_succ]
          refine wpAnyH_take (i := 1) (v := ?_) (by simp only [List.getElem?_toArray, List.getElem?_cons_succ, List.getElem?_cons_zero]; rfl) (by kernel_rfl) (by kernel_rfl) (by kernel_rfl) (by exact fun _ _ _ h => h) (Or.inl ⟨by rfl, ?_⟩) hHeld ?_
          rotate_left
          · intro w hSw; (try dsimp only at hSw); go_simp; (try with_reducible rfl)
          try simp only [Act.put, List.setIfInBounds_toArray, List.set_cons_zero, List.set_cons_succ]
          refine wpAnyH_take (i := 2) (v := ?_) (by simp only [List.getElem?_toArray, List.getElem?_cons_succ, List.getElem?_cons_zero]; rfl) (by kernel_rfl) (by kernel_rfl) (by kernel_rfl) (by exact fun _ _ _ h => h) (Or.inl ⟨by rfl, ?_⟩) hHeld ?_
          rotate_left
          · intro w hSw; (try dsimp only at hSw); go_simp; (try with_reducible rfl)
          try simp only [Act.put, List.setIfInBounds_toArray, List.set_cons_zero, List.set_cons_succ]
          refine wpAnyH_take (i := 3) (v := ?_) (by simp only [List.getElem?_toArray, List.getElem?_cons_succ, List.getElem?_cons_zero]; rfl) (by kernel_rfl) (by kernel_rfl) (by kernel_rfl) (by exact fun _ _ _ h => h) (Or.inl ⟨by rfl, ?_⟩) hHeld ?_
          rotate_left
          · intro w hSw; (try dsimp only at hSw); go_simp; (try with_reducible rfl)
          try simp only [Act.put, List.setIfInBounds_toArray, List.set_cons_zero, List.set_cons_succ]
          refine wpAnyH_ready (rs := [4]) (by kernel_rfl) (by simp) ?_
          refine AllReadyH.cons (by simp only [List.getElem?_toArray, List.getElem?_cons_succ, List.getElem?_cons_zero]; rfl) (fun kC hkC => ?_) AllReadyH.nil
          go_simp
          refine (cond_lit 1 1 4 2 1 C 0 H HH.out _).mono ?_; rintro e w5 ⟨rfl, hk5⟩; have hC5 := hCd.no hk5; have hA5 := hk5.blk hAd (fun f => f)
          (try go_wp2_with fail)
          refine hkC.out _ _ (⟨hC5.b, askC hA5⟩) (fun hHeld => ?_)
          clear hkC kC
          try simp only [Act.put, List.setIfInBounds_toArray, List.set_cons_zero, List.set_cons_succ]
          refine wpAnyH_take (i := 5) (v := ?_) (by simp only [List.getElem?_toArray, List.getElem?_cons_succ, List.getElem?_cons_zero]; rfl) (by kernel_rfl) (by kernel_rfl) (by kernel_rfl) (by exact fun _ _ _ h => h) (Or.inl ⟨by rfl, ?_⟩) hHeld ?_
          rotate_left
          · intro w hSw; (try dsimp only at hSw); go_simp; (try with_reducible rfl)
          try simp only [Act.put, List.setIfInBounds_toArray, List.set_cons_zero, List.set_cons_succ]
          refine wpAnyH_take (i := 6) (v := ?_) (by simp only [List.getElem?_toArray, List.getElem?_cons_succ, List.getElem?_cons_zero]; rfl) (by kernel_rfl) (by kernel_rfl) (by kernel_rfl) (by exact fun _ _ _ h => h) (Or.inl ⟨by rfl, ?_⟩) hHeld ?_
          rotate_left
          · intro w hSw; (try dsimp only at hSw); go_simp; (try with_reducible rfl)
          try simp only [Act.put, List.setIfInBounds_toArray, List.set_cons_zero, List.set_cons_succ]
          refine wpAnyH_take (i := 7) (v := undef) (by simp only [List.getElem?_toArray, List.getElem?_cons_succ, List.getElem?_cons_zero]; rfl) (by kernel_rfl) (by kernel_rfl) (by kernel_rfl) (by exact fun _ _ _ h => h) (Or.inr ⟨by rfl, rfl⟩) hHeld ?_
          try simp only [Act.put, List.setIfInBounds_toArray, List.set_cons_zero, List.set_cons_succ]
          refine wpAnyH_take (i := 8) (v := undef) (by simp only [List.getElem?_toArray, List.getElem?_cons_succ, List.getElem?_cons_zero]; rfl) (by kernel_rfl) (by kernel_rfl) (by kernel_rfl) (by exact fun _ _ _ h => h) (Or.inr ⟨by rfl, rfl⟩) hHeld ?_
          try simp only [Act.put, List.setIfInBounds_toArray, List.set_cons_zero, List.set_cons_succ]
          refine wpAnyH_take (i := 9) (v := undef) (by simp only [List.getElem?_toArray, List.getElem?_cons_succ, List.getElem?_cons_zero]; rfl) (by kernel_rfl) (by kernel_rfl) (by kernel_rfl) (by exact fun _ _ _ h => h) (Or.inr ⟨by rfl, rfl⟩) hHeld ?_
          try simp only [Act.put, List.setIfInBounds_toArray, List.set_cons_zero, List.set_cons_succ]
          refine wpAnyH_take (i := 10) (v := undef) (by simp only [List.getElem?_toArray, List.getElem?_cons_succ, List.getElem?_cons_zero]; rfl) (by kernel_rfl) (by kernel_rfl) (by kernel_rfl) (by exact fun _ _ _ h => h) (Or.inr ⟨by rfl, rfl⟩) hHeld ?_
          try simp only [Act.put, List.setIfInBounds_toArray, List.set_cons_zero, List.set_cons_succ]
          refine wpAnyH_take (i := 11) (v := undef) (by simp only [List.getElem?_toArray, List.getElem?_cons_succ, List.getElem?_cons_zero]; rfl) (by kernel_rfl) (by kernel_rfl) (by kernel_rfl) (by exact fun _ _ _ h => h) (Or.inr ⟨by rfl, rfl⟩) hHeld ?_
          try simp only [Act.put, List.setIfInBounds_toArray, List.set_cons_zero, List.set_cons_succ]
          refine wpAnyH_take (i := 12) (v := undef) (by simp only [List.getElem?_toArray, List.getElem?_cons_succ, List.getElem?_cons_zero]; rfl) (by kernel_rfl) (by kernel_rfl) (by kernel_rfl) (by exact fun _ _ _ h => h) (Or.inr ⟨by rfl, rfl⟩) hHeld ?_
          try simp only [Act.put, List.setIfInBounds_toArray, List.set_cons_zero, List.set_cons_succ]
          refine wpAnyH_take (i := 13) (v := undef) (by simp only [List.getElem?_toArray, List.getElem?_cons_succ, List.getElem?_cons_zero]; rfl) (by kernel_rfl) (by kernel_rfl) (by kernel_rfl) (by exact fun _ _ _ h => h) (Or.inr ⟨by rfl, rfl⟩) hHeld ?_
          try simp only [Act.put, List.setIfInBounds_toArray, List.set_cons_zero, List.set_cons_succ]
          refine wpAnyH_take (i := 14) (v := ?_) (by simp only [List.getElem?_toArray, List.getElem?_cons_succ, List.getElem?_cons_zero]; rfl) (by kernel_rfl) (by kernel_rfl) (by kernel_rfl) (by exact fun _ _ _ h => h) (Or.inl ⟨by rfl, ?_⟩) hHeld ?_
          rotate_left
          · intro w hSw; (try dsimp only at hSw); go_simp; (try with_reducible rfl)
          try simp only [Act.put, List.setIfInBounds_toArray, List.set_cons_zero, List.set_cons_succ]
          refine wpAnyH_take (i := 15) (v := ?_) (by simp only [List.getElem?_toArray, List.getElem?_cons_succ, List.getElem?_cons_zero]; rfl) (by kernel_rfl) (by kernel_rfl) (by kernel_rfl) (by exact fun _ _ _ h => h) (Or.inl ⟨by rfl, ?_⟩) hHeld ?_
          rotate_left
          · intro w hSw; (try dsimp only at hSw); go_simp; (try with_reducible rfl)
          try simp only [Act.put, List.setIfInBounds_toArray, List.set_cons_zero, List.set_cons_succ]
          refine wpAnyH_done (by kernel_rfl) ?_ _
          have HCx := Lib.hid hC5; have HAx := Lib.hid hA5
          clear hHeld d1 d1' hC5 hA5 hCd hAd hSa hSb hC4 hAk
          obtain ⟨g0, hg0⟩ : ∃ g : Nat → Bool, ∀ u, g u = (q0 || (decide (ak = 2) && flagN aa u)) := ⟨_, fun _ => rfl⟩
          have hg4 : g0 4 = true := by
            rw [hg0]
            rcases HQ.out with h | ⟨h, u, hu, he⟩
            · rw [h]; rfl
            · rw [flagN_at he 4 hu, h]; simp
          have hgz : g0 0 = q0 := by rw [hg0]; unfold flagN; simp
          have hgs : ∀ u, g0 (u + 1) = (g0 u || (decide (ak = 2) && (aa == flagP ⟨1, 1, 4, 2, 1⟩ u))) := by
            intro u
            have e : flagN aa (u + 1) = (flagN aa u || (aa == flagP ⟨1, 1, 4, 2, 1⟩ u)) := rfl
            rw [hg0, hg0, e]; cases q0 <;> cases decide (ak = 2) <;> simp
          have HG4 := Lib.hid hg4; have HGS := Lib.hid hgs; have HGZ := Lib.hid hgz
          clear hg0 hg4 hgs hgz HQ
          (try rw [hq0])
          go_wp2_with fail
          go_loopw [15, 16] (fun iv uv wq => ∃ u : Nat, u ≤ 4 ∧ iv = .bool (g0 u) ∧ uv = .int .i64 u ∧ CW w wq B R ⟨k, C, T, s, f, l⟩ ∧ wq.heap[Q]? = some (.cells #[.int .i64 ak, .int .i64 aa, .int .i64 av] 72 (0, 0))) (fun _ uv _ => 4 - (intOf uv).toNat)
          case atStart => exact ⟨0, by omega, (by rw [HGZ.out]; try simp [hq0]), rfl, HCx.out, HAx.out⟩
          case round =>
            obtain ⟨u, hu, rfl, rfl, hcu, hau⟩ := hrel
            have hgu := HGS.out u
            have hgu4 : u = 4 → g0 u = true := fun e => by rw [e]; exact HG4.out
            obtain ⟨gu, hge⟩ : ∃ gu, g0 u = gu := ⟨_, rfl⟩
            rw [hge] at hgu hgu4
            (try rw [hge])
            have HGU := Lib.hid hgu
            clear hgu HCx HAx hge
            have hcd := hcu.no ((Keeps.refl NoS _).drew)
            have had := ((Keeps.refl NoS _).drew).blk hau (fun f => f)
            have hSb := hcd.b
            have hSa := askC had
            by_cases hu4 : u < 4
            · clear hgu4
              cases gu with
              | true =>
                go_wp2_with fail
                refine wp_region_held_drew (S := (fun w' => (w'.cell? ⟨B, 0, none⟩ = some (.int .i64 1) ∧ w'.cell? ⟨B, 1, none⟩ = some (.int .i64 1) ∧ w'.cell? ⟨B, 2, none⟩ = some (.int .i64 4) ∧ w'.cell? ⟨B, 3, none⟩ = some (.int .i64 2) ∧ w'.cell? ⟨B, 4, none⟩ = some (.int .i64 1)) ∧ (w'.cell? ⟨Q, 0, none⟩ = some (.int .i64 ak) ∧ w'.cell? ⟨Q, 1, none⟩ = some (.int .i64 aa) ∧ w'.cell? ⟨Q, 2, none⟩ = some (.int .i64 av)))) (by kernel_rfl) (⟨hSb, hSa⟩) (fun hHeld => ?_)
                refine wpAnyH_take (i := 0) (v := ?_) (by simp only [List.getElem?_toArray, List.getElem?_cons_succ, List.getElem?_cons_zero]; rfl) (by kernel_rfl) (by kernel_rfl) (by kernel_rfl) (by exact fun _ _ _ h => h) (Or.inl ⟨by rfl, ?_⟩) hHeld ?_
                rotate_left
                · intro w hSw; (try dsimp only at hSw); go_simp; (try with_reducible rfl)
                try simp only [Act.put, List.setIfInBounds_toArray, List.set_cons_zero, List.set_cons_succ]
                refine wpAnyH_take (i := 1) (v := ?_) (by simp only [List.getElem?_toArray, List.getElem?_cons_succ, List.getElem?_cons_zero]; rfl) (by kernel_rfl) (by kernel_rfl) (by kernel_rfl) (by exact fun _ _ _ h => h) (Or.inl ⟨by rfl, ?_⟩) hHeld ?_
                rotate_left
                · intro w hSw; (try dsimp only at hSw); go_simp; (try with_reducible rfl)
                try simp only [Act.put, List.setIfInBounds_toArray, List.set_cons_zero, List.set_cons_succ]
                refine wpAnyH_take (i := 2) (v := undef) (by simp only [List.getElem?_toArray, List.getElem?_cons_succ, List.getElem?_cons_zero]; rfl) (by kernel_rfl) (by kernel_rfl) (by kernel_rfl) (by exact fun _ _ _ h => h) (Or.inr ⟨by rfl, rfl⟩) hHeld ?_
                try simp only [Act.put, List.setIfInBounds_toArray, List.set_cons_zero, List.set_cons_succ]
                refine wpAnyH_take (i := 3) (v := undef) (by simp only [List.getElem?_toArray, List.getElem?_cons_succ, List.getElem?_cons_zero]; rfl) (by kernel_rfl) (by kernel_rfl) (by kernel_rfl) (by exact fun _ _ _ h => h) (Or.inr ⟨by rfl, rfl⟩) hHeld ?_
                try simp only [Act.put, List.setIfInBounds_toArray, List.set_cons_zero, List.set_cons_succ]
                refine wpAnyH_take (i := 4) (v := undef) (by simp only [List.getElem?_toArray, List.getElem?_cons_succ, List.getElem?_cons_zero]; rfl) (by kernel_rfl) (by kernel_rfl) (by kernel_rfl) (by exact fun _ _ _ h => h) (Or.inr ⟨by rfl, rfl⟩) hHeld ?_
                try simp only [Act.put, List.setIfInBounds_toArray, List.set_cons_zero, List.set_cons_succ]
                refine wpAnyH_take (i := 5) (v := undef) (by simp only [List.getElem?_toArray, List.getElem?_cons_succ, List.getElem?_cons_zero]; rfl) (by kernel_rfl) (by kernel_rfl) (by kernel_rfl) (by exact fun _ _ _ h => h) (Or.inr ⟨by rfl, rfl⟩) hHeld ?_
                try simp only [Act.put, List.setIfInBounds_toArray, List.set_cons_zero, List.set_cons_succ]
                refine wpAnyH_take (i := 6) (v := undef) (by simp only [List.getElem?_toArray, List.getElem?_cons_succ, List.getElem?_cons_zero]; rfl) (by kernel_rfl) (by kernel_rfl) (by kernel_rfl) (by exact fun _ _ _ h => h) (Or.inr ⟨by rfl, rfl⟩) hHeld ?_
                try simp only [Act.put, List.setIfInBounds_toArray, List.set_cons_zero, List.set_cons_succ]
                refine wpAnyH_take (i := 7) (v := undef) (by simp only [List.getElem?_toArray, List.getElem?_cons_succ, List.getElem?_cons_zero]; rfl) (by kernel_rfl) (by kernel_rfl) (by kernel_rfl) (by exact fun _ _ _ h => h) (Or.inr ⟨by rfl, rfl⟩) hHeld ?_
                try simp only [Act.put, List.setIfInBounds_toArray, List.set_cons_zero, List.set_cons_succ]
                refine wpAnyH_take (i := 8) (v := undef) (by simp only [List.getElem?_toArray, List.getElem?_cons_succ, List.getElem?_cons_zero]; rfl) (by kernel_rfl) (by kernel_rfl) (by kernel_rfl) (by exact fun _ _ _ h => h) (Or.inr ⟨by rfl, rfl⟩) hHeld ?_
                try simp only [Act.put, List.setIfInBounds_toArray, List.set_cons_zero, List.set_cons_succ]
                refine wpAnyH_take (i := 9) (v := undef) (by simp only [List.getElem?_toArray, List.getElem?_cons_succ, List.getElem?_cons_zero]; rfl) (by kernel_rfl) (by kernel_rfl) (by kernel_rfl) (by exact fun _ _ _ h => h) (Or.inr ⟨by rfl, rfl⟩) hHeld ?_
                try simp only [Act.put, List.setIfInBounds_toArray, List.set_cons_zero, List.set_cons_succ]
                refine wpAnyH_take (i := 10) (v := undef) (by simp only [List.getElem?_toArray, List.getElem?_cons_succ, List.getElem?_cons_zero]; rfl) (by kernel_rfl) (by kernel_rfl) (by kernel_rfl) (by exact fun _ _ _ h => h) (Or.inr ⟨by rfl, rfl⟩) hHeld ?_
                try simp only [Act.put, List.setIfInBounds_toArray, List.set_cons_zero, List.set_cons_succ]
                refine wpAnyH_take (i := 11) (v := undef) (by simp only [List.getElem?_toArray, List.getElem?_cons_succ, List.getElem?_cons_zero]; rfl) (by kernel_rfl) (by kernel_rfl) (by kernel_rfl) (by exact fun _ _ _ h => h) (Or.inr ⟨by rfl, rfl⟩) hHeld ?_
                try simp only [Act.put, List.setIfInBounds_toArray, List.set_cons_zero, List.set_cons_succ]
                refine wpAnyH_take (i := 12) (v := undef) (by simp only [List.getElem?_toArray, List.getElem?_cons_succ, List.getElem?_cons_zero]; rfl) (by kernel_rfl) (by kernel_rfl) (by kernel_rfl) (by exact fun _ _ _ h => h) (Or.inr ⟨by rfl, rfl⟩) hHeld ?_
                try simp only [Act.put, List.setIfInBounds_toArray, List.set_cons_zero, List.set_cons_succ]
                refine wpAnyH_take (i := 13) (v := ?_) (by simp only [List.getElem?_toArray, List.getElem?_cons_succ, List.getElem?_cons_zero]; rfl) (by kernel_rfl) (by kernel_rfl) (by kernel_rfl) (by exact fun _ _ _ h => h) (Or.inl ⟨by rfl, ?_⟩) hHeld ?_
                rotate_left
                · intro w hSw; (try dsimp only at hSw); go_simp; (try with_reducible rfl)
                try simp only [Act.put, List.setIfInBounds_toArray, List.set_cons_zero, List.set_cons_succ]
                refine wpAnyH_take (i := 14) (v := ?_) (by simp only [List.getElem?_toArray, List.getElem?_cons_succ, List.getElem?_cons_zero]; rfl) (by kernel_rfl) (by kernel_rfl) (by kernel_rfl) (by exact fun _ _ _ h => h) (Or.inl ⟨by rfl, ?_⟩) hHeld ?_
                rotate_left
                · intro w hSw; (try dsimp only at hSw); go_simp; (try with_reducible rfl)
                try simp only [Act.put, List.setIfInBounds_toArray, List.set_cons_zero, List.set_cons_succ]
                refine wpAnyH_done (by kernel_rfl) ?_ _
                go_wp2_with fail
                go_roundw
                case rel => exact ⟨u + 1, by omega, by rw [HGU.out]; rfl, by go_num, hcd, had⟩
                case measure => simp [intOf]; omega
              | false =>
                by_cases h2 : ak = 2
                · subst h2
                  obtain ⟨x, hx⟩ : ∃ x, flagP ⟨1, 1, 4, 2, 1⟩ u = x := ⟨_, rfl⟩
                  have HX := Lib.hid hx
                  clear hx
                  go_wp2_with fail
                  refine wp_region_held_drew (S := (fun w' => (w'.cell? ⟨B, 0, none⟩ = some (.int .i64 1) ∧ w'.cell? ⟨B, 1, none⟩ = some (.int .i64 1) ∧ w'.cell? ⟨B, 2, none⟩ = some (.int .i64 4) ∧ w'.cell? ⟨B, 3, none⟩ = some (.int .i64 2) ∧ w'.cell? ⟨B, 4, none⟩ = some (.int .i64 1)) ∧ (w'.cell? ⟨Q, 0, none⟩ = some (.int .i64 2) ∧ w'.cell? ⟨Q, 1, none⟩ = some (.int .i64 aa) ∧ w'.cell? ⟨Q, 2, none⟩ = some (.int .i64 av)))) (by kernel_rfl) (⟨hSb, hSa⟩) (fun hHeld => ?_)
                  refine wpAnyH_take (i := 0) (v := ?_) (by simp only [List.getElem?_toArray, List.getElem?_cons_succ, List.getElem?_cons_zero]; rfl) (by kernel_rfl) (by kernel_rfl) (by kernel_rfl) (by exact fun _ _ _ h => h) (Or.inl ⟨by rfl, ?_⟩) hHeld ?_
                  rotate_left
                  · intro w hSw; (try dsimp only at hSw); go_simp; (try with_reducible rfl)
                  try simp only [Act.put, List.setIfInBounds_toArray, List.set_cons_zero, List.set_cons_succ]
                  refine wpAnyH_take (i := 1) (v := ?_) (by simp only [List.getElem?_toArray, List.getElem?_cons_succ, List.getElem?_cons_zero]; rfl) (by kernel_rfl) (by kernel_rfl) (by kernel_rfl) (by exact fun _ _ _ h => h) (Or.inl ⟨by rfl, ?_⟩) hHeld ?_
                  rotate_left
                  · intro w hSw; (try dsimp only at hSw); go_simp; (try with_reducible rfl)
                  try simp only [Act.put, List.setIfInBounds_toArray, List.set_cons_zero, List.set_cons_succ]
                  refine wpAnyH_take (i := 2) (v := ?_) (by simp only [List.getElem?_toArray, List.getElem?_cons_succ, List.getElem?_cons_zero]; rfl) (by kernel_rfl) (by kernel_rfl) (by kernel_rfl) (by exact fun _ _ _ h => h) (Or.inl ⟨by rfl, ?_⟩) hHeld ?_
                  rotate_left
                  · intro w hSw; (try dsimp only at hSw); go_simp; (try with_reducible rfl)
                  try simp only [Act.put, List.setIfInBounds_toArray, List.set_cons_zero, List.set_cons_succ]
                  refine wpAnyH_take (i := 3) (v := ?_) (by simp only [List.getElem?_toArray, List.getElem?_cons_succ, List.getElem?_cons_zero]; rfl) (by kernel_rfl) (by kernel_rfl) (by kernel_rfl) (by exact fun _ _ _ h => h) (Or.inl ⟨by rfl, ?_⟩) hHeld ?_
                  rotate_left
                  · intro w hSw; (try dsimp only at hSw); go_simp; (try with_reducible rfl)
                  try simp only [Act.put, List.setIfInBounds_toArray, List.set_cons_zero, List.set_cons_succ]
                  refine wpAnyH_take (i := 4) (v := ?_) (by simp only [List.getElem?_toArray, List.getElem?_cons_succ, List.getElem?_cons_zero]; rfl) (by kernel_rfl) (by kernel_rfl) (by kernel_rfl) (by exact fun _ _ _ h => h) (Or.inl ⟨by rfl, ?_⟩) hHeld ?_
                  rotate_left
                  · intro w hSw; (try dsimp only at hSw); go_simp; (try with_reducible rfl)
                  try simp only [Act.put, List.setIfInBounds_toArray, List.set_cons_zero, List.set_cons_succ]
                  refine wpAnyH_take (i := 5) (v := ?_) (by simp only [List.getElem?_toArray, List.getElem?_cons_succ, List.getElem?_cons_zero]; rfl) (by kernel_rfl) (by kernel_rfl) (by kernel_rfl) (by exact fun _ _ _ h => h) (Or.inl ⟨by rfl, ?_⟩) hHeld ?_
                  rotate_left
                  · intro w hSw; (try dsimp only at hSw); go_simp; (try with_reducible rfl)
                  try simp only [Act.put, List.setIfInBounds_toArray, List.set_cons_zero, List.set_cons_succ]
                  refine wpAnyH_take (i := 6) (v := ?_) (by simp only [List.getElem?_toArray, List.getElem?_cons_succ, List.getElem?_cons_zero]; rfl) (by kernel_rfl) (by kernel_rfl) (by kernel_rfl) (by exact fun _ _ _ h => h) (Or.inl ⟨by rfl, ?_⟩) hHeld ?_
                  rotate_left
                  · intro w hSw; (try dsimp only at hSw); go_simp; (try with_reducible rfl)
                  try simp only [Act.put, List.setIfInBounds_toArray, List.set_cons_zero, List.set_cons_succ]
                  refine wpAnyH_take (i := 7) (v := ?_) (by simp only [List.getElem?_toArray, List.getElem?_cons_succ, List.getElem?_cons_zero]; rfl) (by kernel_rfl) (by kernel_rfl) (by kernel_rfl) (by exact fun _ _ _ h => h) (Or.inl ⟨by rfl, ?_⟩) hHeld ?_
                  rotate_left
                  · intro w hSw; (try dsimp only at hSw); go_simp; (try with_reducible rfl)
                  try simp only [Act.put, List.setIfInBounds_toArray, List.set_cons_zero, List.set_cons_succ]
                  refine wpAnyH_take (i := 8) (v := ?_) (by simp only [List.getElem?_toArray, List.getElem?_cons_succ, List.getElem?_cons_zero]; rfl) (by kernel_rfl) (by kernel_rfl) (by kernel_rfl) (by exact fun _ _ _ h => h) (Or.inl ⟨by rfl, ?_⟩) hHeld ?_
                  rotate_left
                  · intro w hSw; (try dsimp only at hSw); go_simp; (try with_reducible rfl)
                  try simp only [Act.put, List.setIfInBounds_toArray, List.set_cons_zero, List.set_cons_succ]
                  refine wpAnyH_take (i := 9) (v := ?_) (by simp only [List.getElem?_toArray, List.getElem?_cons_succ, List.getElem?_cons_zero]; rfl) (by kernel_rfl) (by kernel_rfl) (by kernel_rfl) (by exact fun _ _ _ h => h) (Or.inl ⟨by rfl, ?_⟩) hHeld ?_
                  rotate_left
                  · intro w hSw; (try dsimp only at hSw); go_simp; (try with_reducible rfl)
                  try simp only [Act.put, List.setIfInBounds_toArray, List.set_cons_zero, List.set_cons_succ]
                  refine wpAnyH_ready (rs := [10]) (by kernel_rfl) (by simp) ?_
                  refine AllReadyH.cons (by simp only [List.getElem?_toArray, List.getElem?_cons_succ, List.getElem?_cons_zero]; rfl) (fun kC hkC => ?_) AllReadyH.nil
                  go_simp
                  refine (flag_lit 1 1 4 2 1 u x HX.out _).mono ?_; rintro e w7 ⟨rfl, hk7⟩; have hc7 := hcd.no hk7; have ha7 := hk7.blk had (fun f => f)
                  (try go_wp2_with fail)
                  refine hkC.out _ _ (⟨hc7.b, askC ha7⟩) (fun hHeld => ?_)
                  clear hkC kC
                  try simp only [Act.put, List.setIfInBounds_toArray, List.set_cons_zero, List.set_cons_succ]
                  refine wpAnyH_take (i := 11) (v := ?_) (by simp only [List.getElem?_toArray, List.getElem?_cons_succ, List.getElem?_cons_zero]; rfl) (by kernel_rfl) (by kernel_rfl) (by kernel_rfl) (by exact fun _ _ _ h => h) (Or.inl ⟨by rfl, ?_⟩) hHeld ?_
                  rotate_left
                  · intro w hSw; (try dsimp only at hSw); go_simp; (try with_reducible rfl)
                  try simp only [Act.put, List.setIfInBounds_toArray, List.set_cons_zero, List.set_cons_succ]
                  refine wpAnyH_take (i := 12) (v := ?_) (by simp only [List.getElem?_toArray, List.getElem?_cons_succ, List.getElem?_cons_zero]; rfl) (by kernel_rfl) (by kernel_rfl) (by kernel_rfl) (by exact fun _ _ _ h => h) (Or.inl ⟨by rfl, ?_⟩) hHeld ?_
                  rotate_left
                  · intro w hSw; (try dsimp only at hSw); go_simp; (try with_reducible rfl)
                  try simp only [Act.put, List.setIfInBounds_toArray, List.set_cons_zero, List.set_cons_succ]
                  refine wpAnyH_take (i := 13) (v := ?_) (by simp only [List.getElem?_toArray, List.getElem?_cons_succ, List.getElem?_cons_zero]; rfl) (by kernel_rfl) (by kernel_rfl) (by kernel_rfl) (by exact fun _ _ _ h => h) (Or.inl ⟨by rfl, ?_⟩) hHeld ?_
                  rotate_left
                  · intro w hSw; (try dsimp only at hSw); go_simp; (try with_reducible rfl)
                  try simp only [Act.put, List.setIfInBounds_toArray, List.set_cons_zero, List.set_cons_succ]
                  refine wpAnyH_take (i := 14) (v := ?_) (by simp only [List.getElem?_toArray, List.getElem?_cons_succ, List.getElem?_cons_zero]; rfl) (by kernel_rfl) (by kernel_rfl) (by kernel_rfl) (by exact fun _ _ _ h => h) (Or.inl ⟨by rfl, ?_⟩) hHeld ?_
                  rotate_left
                  · intro w hSw; (try dsimp only at hSw); go_simp; (try with_reducible rfl)
                  try simp only [Act.put, List.setIfInBounds_toArray, List.set_cons_zero, List.set_cons_succ]
                  refine wpAnyH_done (by kernel_rfl) ?_ _
                  go_wp2_with fail
                  go_roundw
                  case rel => exact ⟨u + 1, by omega, by rw [HGU.out, HX.out]; rfl, by go_num, hc7, ha7⟩
                  case measure => simp [intOf]; omega
                · have h2' : (ak == 2) = false := beq_eq_false_iff_ne.2 h2
                  have hd2 : decide (ak = 2) = false := decide_eq_false h2
                  clear h2
                  go_wp2_with fail
                  refine wp_region_held_drew (S := (fun w' => (w'.cell? ⟨B, 0, none⟩ = some (.int .i64 1) ∧ w'.cell? ⟨B, 1, none⟩ = some (.int .i64 1) ∧ w'.cell? ⟨B, 2, none⟩ = some (.int .i64 4) ∧ w'.cell? ⟨B, 3, none⟩ = some (.int .i64 2) ∧ w'.cell? ⟨B, 4, none⟩ = some (.int .i64 1)) ∧ (w'.cell? ⟨Q, 0, none⟩ = some (.int .i64 ak) ∧ w'.cell? ⟨Q, 1, none⟩ = some (.int .i64 aa) ∧ w'.cell? ⟨Q, 2, none⟩ = some (.int .i64 av)))) (by kernel_rfl) (⟨hSb, hSa⟩) (fun hHeld => ?_)
                  refine wpAnyH_take (i := 0) (v := ?_) (by simp only [List.getElem?_toArray, List.getElem?_cons_succ, List.getElem?_cons_zero]; rfl) (by kernel_rfl) (by kernel_rfl) (by kernel_rfl) (by exact fun _ _ _ h => h) (Or.inl ⟨by rfl, ?_⟩) hHeld ?_
                  rotate_left
                  · intro w hSw; (try dsimp only at hSw); go_simp; (try with_reducible rfl)
                  try simp only [Act.put, List.setIfInBounds_toArray, List.set_cons_zero, List.set_cons_succ]
                  refine wpAnyH_take (i := 1) (v := ?_) (by simp only [List.getElem?_toArray, List.getElem?_cons_succ, List.getElem?_cons_zero]; rfl) (by kernel_rfl) (by kernel_rfl) (by kernel_rfl) (by exact fun _ _ _ h => h) (Or.inl ⟨by rfl, ?_⟩) hHeld ?_
                  rotate_left
                  · intro w hSw; (try dsimp only at hSw); go_simp; (try with_reducible rfl)
                  try simp only [Act.put, List.setIfInBounds_toArray, List.set_cons_zero, List.set_cons_succ]
                  refine wpAnyH_take (i := 2) (v := ?_) (by simp only [List.getElem?_toArray, List.getElem?_cons_succ, List.getElem?_cons_zero]; rfl) (by kernel_rfl) (by kernel_rfl) (by kernel_rfl) (by exact fun _ _ _ h => h) (Or.inl ⟨by rfl, ?_⟩) hHeld ?_
                  rotate_left
                  · intro w hSw; (try dsimp only at hSw); go_simp; (try with_reducible rfl)
                  try simp only [Act.put, List.setIfInBounds_toArray, List.set_cons_zero, List.set_cons_succ]
                  refine wpAnyH_take (i := 3) (v := ?_) (by simp only [List.getElem?_toArray, List.getElem?_cons_succ, List.getElem?_cons_zero]; rfl) (by kernel_rfl) (by kernel_rfl) (by kernel_rfl) (by exact fun _ _ _ h => h) (Or.inl ⟨by rfl, ?_⟩) hHeld ?_
                  rotate_left
                  · intro w hSw; (try dsimp only at hSw); go_simp; (try with_reducible rfl)
                  try simp only [Act.put, List.setIfInBounds_toArray, List.set_cons_zero, List.set_cons_succ]
                  refine wpAnyH_take (i := 4) (v := ?_) (by simp only [List.getElem?_toArray, List.getElem?_cons_succ, List.getElem?_cons_zero]; rfl) (by kernel_rfl) (by kernel_rfl) (by kernel_rfl) (by exact fun _ _ _ h => h) (Or.inl ⟨by rfl, ?_⟩) hHeld ?_
                  rotate_left
                  · intro w hSw; (try dsimp only at hSw); go_simp; (try with_reducible rfl)
                  try simp only [Act.put, List.setIfInBounds_toArray, List.set_cons_zero, List.set_cons_succ]
                  refine wpAnyH_take (i := 5) (v := ?_) (by simp only [List.getElem?_toArray, List.getElem?_cons_succ, List.getElem?_cons_zero]; rfl) (by kernel_rfl) (by kernel_rfl) (by kernel_rfl) (by exact fun _ _ _ h => h) (Or.inl ⟨by rfl, ?_⟩) hHeld ?_
                  rotate_left
                  · intro w hSw; (try dsimp only at hSw); go_simp; (try with_reducible rfl)
                  try simp only [Act.put, List.setIfInBounds_toArray, List.set_cons_zero, List.set_cons_succ]
                  refine wpAnyH_take (i := 6) (v := undef) (by simp only [List.getElem?_toArray, List.getElem?_cons_succ, List.getElem?_cons_zero]; rfl) (by kernel_rfl) (by kernel_rfl) (by kernel_rfl) (by exact fun _ _ _ h => h) (Or.inr ⟨by rfl, rfl⟩) hHeld ?_
                  try simp only [Act.put, List.setIfInBounds_toArray, List.set_cons_zero, List.set_cons_succ]
                  refine wpAnyH_take (i := 7) (v := undef) (by simp only [List.getElem?_toArray, List.getElem?_cons_succ, List.getElem?_cons_zero]; rfl) (by kernel_rfl) (by kernel_rfl) (by kernel_rfl) (by exact fun _ _ _ h => h) (Or.inr ⟨by rfl, rfl⟩) hHeld ?_
                  try simp only [Act.put, List.setIfInBounds_toArray, List.set_cons_zero, List.set_cons_succ]
                  refine wpAnyH_take (i := 8) (v := undef) (by simp only [List.getElem?_toArray, List.getElem?_cons_succ, List.getElem?_cons_zero]; rfl) (by kernel_rfl) (by kernel_rfl) (by kernel_rfl) (by exact fun _ _ _ h => h) (Or.inr ⟨by rfl, rfl⟩) hHeld ?_
                  try simp only [Act.put, List.setIfInBounds_toArray, List.set_cons_zero, List.set_cons_succ]
                  refine wpAnyH_take (i := 9) (v := undef) (by simp only [List.getElem?_toArray, List.getElem?_cons_succ, List.getElem?_cons_zero]; rfl) (by kernel_rfl) (by kernel_rfl) (by kernel_rfl) (by exact fun _ _ _ h => h) (Or.inr ⟨by rfl, rfl⟩) hHeld ?_
                  try simp only [Act.put, List.setIfInBounds_toArray, List.set_cons_zero, List.set_cons_succ]
                  refine wpAnyH_take (i := 10) (v := undef) (by simp only [List.getElem?_toArray, List.getElem?_cons_succ, List.getElem?_cons_zero]; rfl) (by kernel_rfl) (by kernel_rfl) (by kernel_rfl) (by exact fun _ _ _ h => h) (Or.inr ⟨by rfl, rfl⟩) hHeld ?_
                  try simp only [Act.put, List.setIfInBounds_toArray, List.set_cons_zero, List.set_cons_succ]
                  refine wpAnyH_take (i := 11) (v := undef) (by simp only [List.getElem?_toArray, List.getElem?_cons_succ, List.getElem?_cons_zero]; rfl) (by kernel_rfl) (by kernel_rfl) (by kernel_rfl) (by exact fun _ _ _ h => h) (Or.inr ⟨by rfl, rfl⟩) hHeld ?_
                  try simp only [Act.put, List.setIfInBounds_toArray, List.set_cons_zero, List.set_cons_succ]
                  refine wpAnyH_take (i := 12) (v := ?_) (by simp only [List.getElem?_toArray, List.getElem?_cons_succ, List.getElem?_cons_zero]; rfl) (by kernel_rfl) (by kernel_rfl) (by kernel_rfl) (by exact fun _ _ _ h => h) (Or.inl ⟨by rfl, ?_⟩) hHeld ?_
                  rotate_left
                  · intro w hSw; (try dsimp only at hSw); go_simp; (try with_reducible rfl)
                  try simp only [Act.put, List.setIfInBounds_toArray, List.set_cons_zero, List.set_cons_succ]
                  refine wpAnyH_take (i := 13) (v := ?_) (by simp only [List.getElem?_toArray, List.getElem?_cons_succ, List.getElem?_cons_zero]; rfl) (by kernel_rfl) (by kernel_rfl) (by kernel_rfl) (by exact fun _ _ _ h => h) (Or.inl ⟨by rfl, ?_⟩) hHeld ?_
                  rotate_left
                  · intro w hSw; (try dsimp only at hSw); go_simp; (try with_reducible rfl)
                  try simp only [Act.put, List.setIfInBounds_toArray, List.set_cons_zero, List.set_cons_succ]
                  refine wpAnyH_take (i := 14) (v := ?_) (by simp only [List.getElem?_toArray, List.getElem?_cons_succ, List.getElem?_cons_zero]; rfl) (by kernel_rfl) (by kernel_rfl) (by kernel_rfl) (by exact fun _ _ _ h => h) (Or.inl ⟨by rfl, ?_⟩) hHeld ?_
                  rotate_left
                  · intro w hSw; (try dsimp only at hSw); go_simp; (try with_reducible rfl)
                  try simp only [Act.put, List.setIfInBounds_toArray, List.set_cons_zero, List.set_cons_succ]
                  refine wpAnyH_done (by kernel_rfl) ?_ _
                  go_wp2_with fail
                  go_roundw
                  case rel => exact ⟨u + 1, by omega, by rw [HGU.out, hd2]; rfl, by go_num, hcd, had⟩
                  case measure => simp [intOf]; omega
            · have hgt := hgu4 (by omega)
              subst hgt
              obtain ⟨bb, off, rfl, hcs⟩ := HW.out (fun e => by rw [e] at hlt; simp at hlt)
              have cn := (hcd.k).cell (hcs n hlt) (fun f => f)
              clear hcs hgu4 hSa had hau
              generalize L.getD n 0 = z at cn
              obtain ⟨hrc, hrf, hrl⟩ := hcd.r.cells
              clear hSb
              have hlt' : (n : Int) < (L.length : Int) := by omega
              go_wp2_with fail
              refine wp_region_kept_drew 8 (fun w' => (w'.cell? ⟨B, 0, none⟩ = some (.int .i64 1) ∧ w'.cell? ⟨B, 1, none⟩ = some (.int .i64 1) ∧ w'.cell? ⟨B, 2, none⟩ = some (.int .i64 4) ∧ w'.cell? ⟨B, 3, none⟩ = some (.int .i64 2) ∧ w'.cell? ⟨B, 4, none⟩ = some (.int .i64 1)) ∧ (w'.cell? ⟨R, 0, none⟩ = some (.int .i64 k) ∧ w'.cell? ⟨R, 1, none⟩ = some (.int .i64 C) ∧ w'.cell? ⟨R, 2, none⟩ = some (.int .i64 T) ∧ w'.cell? ⟨R, 3, none⟩ = some (.int .i64 s) ∧ w'.cell? ⟨R, 4, none⟩ = some (.int .i64 f) ∧ w'.cell? ⟨R, 5, none⟩ = some (.int .i64 l)) ∧ w'.cell? ⟨bb, off + n, none⟩ = some (.int .i64 z)) 8 (fun _ => True) (by kernel_rfl) (⟨hcd.b, hrc, cn⟩) (trivial) (fun hK => ?_)
              refine wpAnyK_take1 (i := 0) (v := ?_) (by simp only [List.getElem?_toArray, List.getElem?_cons_succ, List.getElem?_cons_zero]; rfl) (by kernel_rfl) (by kernel_rfl) (by kernel_rfl) (by kernel_rfl) (by kernel_rfl) (by kernel_rfl) (by exact fun _ _ _ h => h) (Or.inl ⟨by rfl, ?_⟩) (hK _) ?_
              rotate_left
              · intro w hSw; (try dsimp only at hSw); go_simp; (try with_reducible rfl)
              try simp only [Act.put, List.setIfInBounds_toArray, List.set_cons_zero, List.set_cons_succ]
              refine wpAnyK_take1 (i := 1) (v := ?_) (by simp only [List.getElem?_toArray, List.getElem?_cons_succ, List.getElem?_cons_zero]; rfl) (by kernel_rfl) (by kernel_rfl) (by kernel_rfl) (by kernel_rfl) (by kernel_rfl) (by kernel_rfl) (by exact fun _ _ _ h => h) (Or.inl ⟨by rfl, ?_⟩) (hK _) ?_
              rotate_left
              · intro w hSw; (try dsimp only at hSw); go_simp; (try with_reducible rfl)
              try simp only [Act.put, List.setIfInBounds_toArray, List.set_cons_zero, List.set_cons_succ]
              refine wpAnyK_take1 (i := 2) (v := ?_) (by simp only [List.getElem?_toArray, List.getElem?_cons_succ, List.getElem?_cons_zero]; rfl) (by kernel_rfl) (by kernel_rfl) (by kernel_rfl) (by kernel_rfl) (by kernel_rfl) (by kernel_rfl) (by exact fun _ _ _ h => h) (Or.inl ⟨by rfl, ?_⟩) (hK _) ?_
              rotate_left
              · intro w hSw; (try dsimp only at hSw); go_simp; (try with_reducible rfl)
              try simp only [Act.put, List.setIfInBounds_toArray, List.set_cons_zero, List.set_cons_succ]
              refine wpAnyK_take1 (i := 3) (v := ?_) (by simp only [List.getElem?_toArray, List.getElem?_cons_succ, List.getElem?_cons_zero]; rfl) (by kernel_rfl) (by kernel_rfl) (by kernel_rfl) (by kernel_rfl) (by kernel_rfl) (by kernel_rfl) (by exact fun _ _ _ h => h) (Or.inl ⟨by rfl, ?_⟩) (hK _) ?_
              rotate_left
              · intro w hSw; (try dsimp only at hSw); go_simp; (try with_reducible rfl)
              try simp only [Act.put, List.setIfInBounds_toArray, List.set_cons_zero, List.set_cons_succ]
              refine wpAnyK_take1 (i := 4) (v := ?_) (by simp only [List.getElem?_toArray, List.getElem?_cons_succ, List.getElem?_cons_zero]; rfl) (by kernel_rfl) (by kernel_rfl) (by kernel_rfl) (by kernel_rfl) (by kernel_rfl) (by kernel_rfl) (by exact fun _ _ _ h => h) (Or.inl ⟨by rfl, ?_⟩) (hK _) ?_
              rotate_left
              · intro w hSw; (try dsimp only at hSw); go_simp; (try with_reducible rfl)
              try simp only [Act.put, List.setIfInBounds_toArray, List.set_cons_zero, List.set_cons_succ]
              refine wpAnyK_take1 (i := 5) (v := ?_) (by simp only [List.getElem?_toArray, List.getElem?_cons_succ, List.getElem?_cons_zero]; rfl) (by kernel_rfl) (by kernel_rfl) (by kernel_rfl) (by kernel_rfl) (by kernel_rfl) (by kernel_rfl) (by exact fun _ _ _ h => h) (Or.inl ⟨by rfl, ?_⟩) (hK _) ?_
              rotate_left
              · intro w hSw; (try dsimp only at hSw); go_simp; (try with_reducible rfl)
              try simp only [Act.put, List.setIfInBounds_toArray, List.set_cons_zero, List.set_cons_succ]
              refine wpAnyK_take1 (i := 6) (v := ?_) (by simp only [List.getElem?_toArray, List.getElem?_cons_succ, List.getElem?_cons_zero]; rfl) (by kernel_rfl) (by kernel_rfl) (by kernel_rfl) (by kernel_rfl) (by kernel_rfl) (by kernel_rfl) (by exact fun _ _ _ h => h) (Or.inl ⟨by rfl, ?_⟩) (hK _) ?_
              rotate_left
              · intro w hSw; (try dsimp only at hSw); go_simp; (try with_reducible rfl)
              try simp only [Act.put, List.setIfInBounds_toArray, List.set_cons_zero, List.set_cons_succ]
              refine wpAnyK_one (i := 7) (by kernel_rfl) (by simp only [List.getElem?_toArray, List.getElem?_cons_succ, List.getElem?_cons_zero]; rfl) (fun kC hkC => ?_)
              go_simp
              refine (HFD.out _ _).mono ?_; rintro e w8 ⟨k', s', f', l', rfl, hs', hk8⟩; have hc8 := hcd.no hk8; have cn8 := hk8.cell cn (fun f => f); obtain ⟨_, ⟨P0, P1, P2, P3, P4, P5⟩, LZ⟩ := hc8.r.cells; have hc9 := hc8.set hRw (by omega) ⟨k', C, T, s', f', l'⟩; unfold setR at hc9; dsimp only at hc9; have HC9 := Lib.hid hc9; clear hc9
              (try go_wp2_with fail)
              refine hkC.out _ _ (⟨hc8.b, hc8.r.cells.1, cn8⟩) (trivial) (fun hK => ?_)
              clear hkC kC
              try simp only [Act.put, List.setIfInBounds_toArray, List.set_cons_zero, List.set_cons_succ]
              refine wpAnyK_last (i := 8) (by kernel_rfl) (by simp only [List.getElem?_toArray, List.getElem?_cons_succ, List.getElem?_cons_zero]; rfl) (by kernel_rfl) (by kernel_rfl) (fun kC hkC => ?_)
              go_simp
              refine hkC.out _ _ ?_
              clear hkC kC
              try simp only [Act.put, List.setIfInBounds_toArray, List.set_cons_zero, List.set_cons_succ]
              refine wpAnyK_done (by kernel_rfl) ?_ _
              go_wp2_with fail
              go_roundw
              case rel => exact ⟨n + 1, ⟨k', C, T, s', f', l'⟩, by omega, by go_num, HC9.out, rfl, rfl, hs'⟩
              case measure => simp [intOf]; omega
    · obtain rfl : n = L.length := by omega
      go_wp2_with (go_at_call 40; refine (told20_any _).mono ?_; rintro e w5 ⟨rfl, hk5⟩)
      go_ret
      exact ⟨rfl, HCn.out.k.trans hk5⟩
end Go.Proofs.Ytodaiogefgdcpaa
