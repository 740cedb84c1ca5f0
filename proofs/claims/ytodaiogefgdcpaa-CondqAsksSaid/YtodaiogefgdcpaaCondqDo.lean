/- Layer 20: a row done by accesses. -/
import Derived.Test.YtodaiogefgdcpaaCondqFed
import Derived.Test.YtodaiogefgdcpaaMemTot
namespace Go.Proofs.Ytodaiogefgdcpaa
open Go.RowKit
def stepD (m : MapS) (S : MemS × RowS) : MemS × RowS :=
  if (nextA m S.2).k = 1 then (S.1.loadI (nextA m S.2).at_, fedR m S.2 (S.1.atP (nextA m S.2).at_)) else (S.1.storeI (nextA m S.2).at_ (nextA m S.2).v, fedR m S.2 0)
def iterD (m : MapS) (S : MemS × RowS) : Nat → MemS × RowS
  | 0 => S
  | n + 1 => stepD m (iterD m S n)
theorem next_kind (m : MapS) (r : RowS) : (nextA m r).k = 0 ∨ (nextA m r).k = 1 ∨ (nextA m r).k = 2 := by
  unfold nextA sleepsA wakesA
  repeat' split
  all_goals first | exact .inl rfl | exact .inr (.inl rfl) | exact .inr (.inr rfl)
theorem fed_bd {m : MapS} {r : RowS} (v : Int) (hm : m.t ≤ 1000) (h : r.s ≤ 1009) : (fedR m r v).s ≤ 1009 := by
  unfold fedR
  by_cases h0 : (nextA m r).k = 0
  · rw [if_pos h0]; exact h
  · rw [if_neg h0]
    by_cases h1 : r.k = 1
    · rw [if_pos h1]
      have := next_k1 h0 h1
      repeat' split
      all_goals (dsimp only; omega)
    · rw [if_neg h1]
      repeat' split
      all_goals (try dsimp only)
      all_goals first | omega | (split <;> omega)
theorem iterD_bd {m : MapS} {S : MemS × RowS} (hm : m.t ≤ 1000) (h : S.2.s ≤ 1009) : ∀ n, (iterD m S n).2.s ≤ 1009
  | 0 => h
  | n + 1 => by
    unfold iterD stepD
    split
    · exact fed_bd _ hm (iterD_bd hm h n)
    · exact fed_bd _ hm (iterD_bd hm h n)
def RowAt (w : World) (b : Nat) (r : RowS) : Prop := w.heap[b]? = some (.cells #[.int .i64 r.k, .int .i64 r.c, .int .i64 r.t, .int .i64 r.s, .int .i64 r.f, .int .i64 r.l] 70 (0, 0))
theorem RowAt.cells {w : World} {b : Nat} {k c t s f l : Int} (h : RowAt w b ⟨k, c, t, s, f, l⟩) : (w.cell? ⟨b, 0, none⟩ = some (.int .i64 k) ∧ w.cell? ⟨b, 1, none⟩ = some (.int .i64 c) ∧ w.cell? ⟨b, 2, none⟩ = some (.int .i64 t) ∧ w.cell? ⟨b, 3, none⟩ = some (.int .i64 s) ∧ w.cell? ⟨b, 4, none⟩ = some (.int .i64 f) ∧ w.cell? ⟨b, 5, none⟩ = some (.int .i64 l)) ∧ (w.frozen? ⟨b, 0, none⟩ = false ∧ w.frozen? ⟨b, 1, none⟩ = false ∧ w.frozen? ⟨b, 2, none⟩ = false ∧ w.frozen? ⟨b, 3, none⟩ = false ∧ w.frozen? ⟨b, 4, none⟩ = false ∧ w.frozen? ⟨b, 5, none⟩ = false) ∧ b < w.heap.size :=
  ⟨⟨by rw [blk_cell h]; rfl, by rw [blk_cell h]; rfl, by rw [blk_cell h]; rfl, by rw [blk_cell h]; rfl, by rw [blk_cell h]; rfl, by rw [blk_cell h]; rfl⟩, ⟨blk_free h 0, blk_free h 1, blk_free h 2, blk_free h 3, blk_free h 4, blk_free h 5⟩, blk_lt h⟩
theorem RowAt.keep {S : Nat → Prop} {w w' : World} {b : Nat} {r : RowS} (h : RowAt w b r) (k : Keeps S w w') (hb : ¬ S b) : RowAt w' b r := k.blk h hb
def setR (w : World) (G : Nat) (r : RowS) : World := (((((w.setCell ⟨G, 0, none⟩ (.int .i64 r.k)).setCell ⟨G, 1, none⟩ (.int .i64 r.c)).setCell ⟨G, 2, none⟩ (.int .i64 r.t)).setCell ⟨G, 3, none⟩ (.int .i64 r.s)).setCell ⟨G, 4, none⟩ (.int .i64 r.f)).setCell ⟨G, 5, none⟩ (.int .i64 r.l)
theorem setR_keeps (w : World) (G : Nat) (r : RowS) : Keeps (just G) w (setR w G r) :=
  ((((((Keeps.refl (just G) w).setCell (p := ⟨G, _, none⟩) (fun _ => rfl) _).setCell (p := ⟨G, _, none⟩) (fun _ => rfl) _).setCell (p := ⟨G, _, none⟩) (fun _ => rfl) _).setCell (p := ⟨G, _, none⟩) (fun _ => rfl) _).setCell (p := ⟨G, _, none⟩) (fun _ => rfl) _).setCell (p := ⟨G, _, none⟩) (fun _ => rfl) _
theorem RowAt.setR {w : World} {G : Nat} {q : RowS} (h : RowAt w G q) (r : RowS) : RowAt (setR w G r) G r := blk_set (blk_set (blk_set (blk_set (blk_set (blk_set h 0 _) 1 _) 2 _) 3 _) 4 _) 5 _
/-- what Do has at hand -/
structure DoS (w wr : World) (B R a : Nat) (v : Value) (M : MemS) (r : RowS) (ms ml mt mc md : Int) : Prop where
  m : MemAt wr a v M
  k : Keeps (own2m a v) w wr
  b : MapAt wr B ms ml mt mc md
  r : RowAt wr R r
structure DoF (w : World) (B R a : Nat) (v : Value) : Prop where
  aB : ¬ own2m a v B
  aR : ¬ own2m a v R
  br : B ≠ R
  wR : w.heap.size ≤ R
theorem DoS.no {w wr w' : World} {B R a : Nat} {v : Value} {M : MemS} {r : RowS} {ms ml mt mc md : Int} (h : DoS w wr B R a v M r ms ml mt mc md) (k : Keeps NoS wr w') : DoS w w' B R a v M r ms ml mt mc md :=
  ⟨h.m.keep k (fun f => f) (fun _ _ f => f), h.k.trans k.no, h.b.keep k (fun f => f), h.r.keep k (fun f => f)⟩
theorem DoS.turn {w wr w' : World} {B R a : Nat} {v : Value} {M M' : MemS} {r : RowS} {ms ml mt mc md : Int} (h : DoS w wr B R a v M r ms ml mt mc md) (hF : DoF w B R a v) (hm : MemAt w' a v M') (k : Keeps (own2m a v) wr w') : DoS w w' B R a v M' r ms ml mt mc md :=
  ⟨hm, h.k.trans k, h.b.keep k hF.aB, h.r.keep k hF.aR⟩
theorem DoS.row {w wr : World} {B R a : Nat} {v : Value} {M : MemS} {r : RowS} {ms ml mt mc md : Int} (h : DoS w wr B R a v M r ms ml mt mc md) (hF : DoF w B R a v) (q : RowS) : DoS w (setR wr R q) B R a v M q ms ml mt mc md :=
  ⟨h.m.keep (setR_keeps wr R q) (fun e => hF.aR (.inl (by have e' : a = R := e; exact e'.symm))) (fun i hi e => hF.aR (.inr (by have e' : i = R := e; rw [← e']; exact hi))), h.k.trans' (setR_keeps wr R q) (fun i hi e => by have e' : i = R := e; have := hF.wR; omega), h.b.keep (setR_keeps wr R q) hF.br, h.r.setR q⟩
set_option maxHeartbeats 16000000 in
set_option maxRecDepth 100000 in
theorem do_any (ms ml mt mc md kd c t : Int) (a : Nat) (v : Value) (M : MemS) (w : World) (hA : MemAt w a v M) (hmt : mt ≤ 1000) (n : Nat) (hn : n < 60)
    (hz : (nextA ⟨ms, ml, mt, mc, md⟩ (iterD ⟨ms, ml, mt, mc, md⟩ (M, startR kd c t) n).2).k = 0) (hnz : ∀ j, j < n → ¬ (nextA ⟨ms, ml, mt, mc, md⟩ (iterD ⟨ms, ml, mt, mc, md⟩ (M, startR kd c t) j).2).k = 0) :
    Calls Try.prog 57 #[.agg #[.int .i64 ms, .int .i64 ml, .int .i64 mt, .int .i64 mc, .int .i64 md], .pointer (some ⟨a, 0, none⟩), .int .i64 kd, .int .i64 c, .int .i64 t] w fun e w' => e = .returned (.int .i64 n) ∧ MemAt w' a v (iterD ⟨ms, ml, mt, mc, md⟩ (M, startR kd c t) n).1 ∧ Keeps (own2m a v) w w' := by
  have hbd := iterD_bd (m := ⟨ms, ml, mt, mc, md⟩) (S := (M, startR kd c t)) hmt (by show (startR kd c t).s ≤ 1009; unfold startR; dsimp only; split <;> omega)
  obtain ⟨it, hit⟩ : ∃ it, iterD ⟨ms, ml, mt, mc, md⟩ (M, startR kd c t) = it := ⟨_, rfl⟩
  have hi0 : it 0 = (M, startR kd c t) := by rw [← hit]; rfl
  have his : ∀ j, it (j + 1) = stepD ⟨ms, ml, mt, mc, md⟩ (it j) := by intro j; rw [← hit]; rfl
  rw [hit] at hz hnz hbd
  rw [hit]
  have hst := startc_any kd c t
  obtain ⟨⟨k0, c0, t0, s0, f0, l0⟩, hr0⟩ : ∃ r, startR kd c t = r := ⟨_, rfl⟩
  rw [hr0] at hst hi0
  unfold rowV at hst
  dsimp only at hst
  have HST := Lib.hid hst; have HBD := Lib.hid hbd; have HI0 := Lib.hid hi0; have HIS := Lib.hid his; have HZ := Lib.hid hz; have HNZ := Lib.hid hnz
  have hmb := mapAt_new w ms ml mt mc md 25
  have hk := (Keeps.refl NoS w).alloc (.cells #[.int .i64 ms, .int .i64 ml, .int .i64 mt, .int .i64 mc, .int .i64 md] 25)
  have hmA := hA.keep hk (fun f => f) (fun _ _ f => f)
  have hla := blk_lt hA.hd
  have hlv : ∀ g, v.ownBlock = some g → g < w.heap.size := fun g hg => hA.own_lt hg
  have hwl : w.heap.size < (w.alloc (.cells #[.int .i64 ms, .int .i64 ml, .int .i64 mt, .int .i64 mc, .int .i64 md] 25)).heap.size := by simp
  clear hst hbd hi0 his hz hnz hit hr0 hA
  go_enter Try.func57, Try.ntmps57
  go_wp2_with fail
  obtain ⟨B, hB⟩ : ∃ B, w.heap.size = B := ⟨_, rfl⟩
  rw [hB] at hmb hwl hla hlv
  (try rw [hB])
  refine (HST.out _).mono ?_
  rintro e w1 ⟨rfl, hk1⟩
  have hR : ((w1.alloc (.cells #[.int .i64 k0, .int .i64 c0, .int .i64 t0, .int .i64 s0, .int .i64 f0, .int .i64 l0] 70)).heap)[w1.heap.size]? = some (.cells #[.int .i64 k0, .int .i64 c0, .int .i64 t0, .int .i64 s0, .int .i64 f0, .int .i64 l0] 70 (0, 0)) := heap_alloc_new _ _
  have hk2 := hk1.alloc (.cells #[.int .i64 k0, .int .i64 c0, .int .i64 t0, .int .i64 s0, .int .i64 f0, .int .i64 l0] 70)
  have hD : DoS w (w1.alloc (.cells #[.int .i64 k0, .int .i64 c0, .int .i64 t0, .int .i64 s0, .int .i64 f0, .int .i64 l0] 70)) B w1.heap.size a v M ⟨k0, c0, t0, s0, f0, l0⟩ ms ml mt mc md := ⟨hmA.keep hk2 (fun f => f) (fun _ _ f => f), (hk.trans hk2).no, hmb.keep hk2 (fun f => f), hR⟩
  have hBR : B < w1.heap.size := Nat.lt_of_lt_of_le hwl hk1.size
  have hF : DoF w B w1.heap.size a v := ⟨not_own (by omega) (fun e => by have := hlv B e; omega), not_own (by omega) (fun e => by have := hlv _ e; omega), by omega, by omega⟩
  clear hR hk2 hk hmA hmb hla hlv hwl hB hk1
  go_wp2_with fail
  obtain ⟨R, hRe⟩ : ∃ R, w1.heap.size = R := ⟨_, rfl⟩
  rw [hRe] at hD hF hBR
  (try rw [hRe])
  clear hRe
  generalize w1.alloc (.cells #[.int .i64 k0, .int .i64 c0, .int .i64 t0, .int .i64 s0, .int .i64 f0, .int .i64 l0] 70) = w2 at *
  have HD := Lib.hid hD; have HF := Lib.hid hF
  clear hD hF
  go_loopw [12] (fun i wr => ∃ j : Nat, j ≤ n ∧ i = .int .i64 j ∧ DoS w wr B R a v (it j).1 (it j).2 ms ml mt mc md) (fun i _ => n - (intOf i).toNat)
  case atStart => exact ⟨0, by omega, rfl, by rw [HI0.out]; exact HD.out⟩
  case round =>
    obtain ⟨j, hj, rfl, hd⟩ := hrel
    have hbj := HBD.out j
    have hzj : j = n → (nextA ⟨ms, ml, mt, mc, md⟩ (it j).2).k = 0 := fun e => by rw [e]; exact HZ.out
    have hnj : j < n → ¬ (nextA ⟨ms, ml, mt, mc, md⟩ (it j).2).k = 0 := HNZ.out j
    have hsj := HIS.out j
    have hj60 : (j : Int) < 60 := by omega
    have hkk := next_kind ⟨ms, ml, mt, mc, md⟩ (it j).2
    unfold stepD at hsj
    obtain ⟨⟨Mj, rj⟩, hij⟩ : ∃ q, it j = q := ⟨_, rfl⟩
    rw [hij] at hd hbj hzj hnj hsj hkk
    obtain ⟨k, c, t, s, f, l⟩ := rj
    dsimp only at hd hbj hzj hnj hsj hkk
    have hnx := fun w => next_any ms ml mt mc md k c t s f l (by omega) w
    have hfd := fun v w => fed_any ms ml mt mc md k c t s f l v (by omega) hmt w
    obtain ⟨⟨ak, aa, av⟩, hn'⟩ : ∃ q, nextA ⟨ms, ml, mt, mc, md⟩ ⟨k, c, t, s, f, l⟩ = q := ⟨_, rfl⟩
    rw [hn'] at hnx hzj hnj hsj hkk
    unfold askV at hnx
    dsimp only at hnx hzj hnj hsj hkk
    have HNX := Lib.hid hnx; have HFD := Lib.hid hfd; have HDj := Lib.hid hd; have HSJ := Lib.hid hsj; have HIJ := Lib.hid hij
    obtain ⟨⟨b0, b1, b2, b3, b4, b5⟩, ⟨p0, p1, p2, p3, p4, p5⟩, lz⟩ := hd.r.cells
    obtain ⟨a0, a1, a2, a3, a4⟩ := hd.b
    clear hnx hfd hd hn' hij hsj hbj HD
    by_cases hjn : j = n
    · have hk0 := hzj hjn
      subst hjn; subst hk0
      go_wp2_with (go_at_call 41; refine (HNX.out _).mono ?_; rintro e w3 ⟨rfl, hk3⟩; have HD3 := Lib.hid ((HDj.out.no hk3).no ((Keeps.refl NoS w3).alloc (.cells #[.int .i64 0, .int .i64 aa, .int .i64 av] 72))))
      go_ret
      exact ⟨rfl, by rw [HIJ.out]; exact HD3.out.m, HD3.out.k⟩
    · have hk0 := hnj (by omega)
      have hk12 : ak = 1 ∨ ak = 2 := by omega
      clear hzj hnj hkk hk0
      rcases hk12 with rfl | rfl

      · obtain ⟨⟨K, C, T, S, X, Y⟩, hfe⟩ : ∃ q, fedR ⟨ms, ml, mt, mc, md⟩ ⟨k, c, t, s, f, l⟩ (Mj.atP aa) = q := ⟨_, rfl⟩
        have hff := HFD.out (Mj.atP aa)
        rw [hfe] at hff
        unfold rowV at hff
        dsimp only at hff
        have HFF := Lib.hid hff; have HFE := Lib.hid hfe
        clear hff hfe
        go_wp2_with (first
          | (go_at_call 41; refine (HNX.out _).mono ?_; rintro e w3 ⟨rfl, hk3⟩; have hD3 := (HDj.out.no hk3).no ((Keeps.refl NoS w3).alloc (.cells #[.int .i64 1, .int .i64 aa, .int .i64 av] 72)); have hlz3 : R < w3.heap.size := Nat.lt_of_lt_of_le lz hk3.size; have HD3 := Lib.hid hD3; clear hD3)
          | (go_at_call 61; refine (load_tot a v Mj aa _ HD3.out.m).mono ?_; rintro e w4 ⟨rfl, hm4, hk4⟩; have hD4 := HD3.out.turn HF.out hm4 hk4; obtain ⟨⟨B0, B1, B2, B3, B4, B5⟩, _⟩ := hD4.r.cells; obtain ⟨A0, A1, A2, A3, A4⟩ := hD4.b; have HD4 := Lib.hid hD4; clear hD4)
          | (go_at_call 44; refine (HFF.out _).mono ?_; rintro e w5 ⟨rfl, hk5⟩; have hD5 := HD4.out.no hk5; obtain ⟨_, ⟨P0, P1, P2, P3, P4, P5⟩, LZ⟩ := hD5.r.cells; have hD6 := hD5.row HF.out ⟨K, C, T, S, X, Y⟩; unfold setR at hD6; dsimp only at hD6; have HD6 := Lib.hid hD6; clear hD5 hD6))
        go_roundw
        case rel => exact ⟨j + 1, by omega, by go_num, by rw [HSJ.out]; simp only [HFE.out]; exact HD6.out⟩
        case measure => simp [intOf]; omega
      · obtain ⟨⟨K, C, T, S, X, Y⟩, hfe⟩ : ∃ q, fedR ⟨ms, ml, mt, mc, md⟩ ⟨k, c, t, s, f, l⟩ (0) = q := ⟨_, rfl⟩
        have hff := HFD.out (0)
        rw [hfe] at hff
        unfold rowV at hff
        dsimp only at hff
        have HFF := Lib.hid hff; have HFE := Lib.hid hfe
        clear hff hfe
        go_wp2_with (first
          | (go_at_call 41; refine (HNX.out _).mono ?_; rintro e w3 ⟨rfl, hk3⟩; have hD3 := (HDj.out.no hk3).no ((Keeps.refl NoS w3).alloc (.cells #[.int .i64 2, .int .i64 aa, .int .i64 av] 72)); have hlz3 : R < w3.heap.size := Nat.lt_of_lt_of_le lz hk3.size; have HD3 := Lib.hid hD3; clear hD3)
          | (go_at_call 24; refine (store_tot a v Mj aa av _ HD3.out.m).mono ?_; rintro e w4 ⟨rfl, hm4, hk4⟩; have hD4 := HD3.out.turn HF.out hm4 hk4; obtain ⟨⟨B0, B1, B2, B3, B4, B5⟩, _⟩ := hD4.r.cells; obtain ⟨A0, A1, A2, A3, A4⟩ := hD4.b; have HD4 := Lib.hid hD4; clear hD4)
          | (go_at_call 44; refine (HFF.out _).mono ?_; rintro e w5 ⟨rfl, hk5⟩; have hD5 := HD4.out.no hk5; obtain ⟨_, ⟨P0, P1, P2, P3, P4, P5⟩, LZ⟩ := hD5.r.cells; have hD6 := hD5.row HF.out ⟨K, C, T, S, X, Y⟩; unfold setR at hD6; dsimp only at hD6; have HD6 := Lib.hid hD6; clear hD5 hD6))
        go_roundw
        case rel => exact ⟨j + 1, by omega, by go_num, by rw [HSJ.out]; simp only [HFE.out]; exact HD6.out⟩
        case measure => simp [intOf]; omega
end Go.Proofs.Ytodaiogefgdcpaa
