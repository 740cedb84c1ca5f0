/- Who slept first is woken first, each once (the walk). -/
import Derived.Test.YtodaiogefgdcpaaCondqOrd
import Derived.Test.YtodaiogefgdcpaaQRow
import Derived.Test.YtodaiogefgdcpaaMemSame
namespace Go.Proofs.Ytodaiogefgdcpaa
open Go.RowKit
theorem mapC20' {w : World} {B : Nat} (h : MapAt w B 1 1 4 2 1) : (w.cell? ⟨B, 0, none⟩ = some (.int .i64 1) ∧ w.cell? ⟨B, 1, none⟩ = some (.int .i64 1) ∧ w.cell? ⟨B, 2, none⟩ = some (.int .i64 4) ∧ w.cell? ⟨B, 3, none⟩ = some (.int .i64 2) ∧ w.cell? ⟨B, 4, none⟩ = some (.int .i64 1)) := h
theorem mod_bdO (z : Int) (n : Nat) (h : 0 < n) (hn : n ≤ 100) : ∃ q : Nat, (IntKind.u64.wrap z).tmod (n : Int) = (q : Int) ∧ q < n := by
  obtain ⟨h1, h2⟩ := u64_tmod_bd z n (by omega)
  exact ⟨((IntKind.u64.wrap z).tmod n).toNat, by omega, by omega⟩
theorem do20' (kd c t : Int) (a : Nat) (v : Value) (M : MemS) (n : Nat) (hn : n < 60) {M' : MemS} (h0 : (iterD m20 (M, startR kd c t) n).1 = M') (h1 : (nextA m20 (iterD m20 (M, startR kd c t) n).2).k = 0) (h2 : ∀ j, j < n → ¬ (nextA m20 (iterD m20 (M, startR kd c t) j).2).k = 0) (w : World) (hA : MemAt w a v M) :
    Calls Try.prog 57 #[.agg #[.int .i64 1, .int .i64 1, .int .i64 4, .int .i64 2, .int .i64 1], .pointer (some ⟨a, 0, none⟩), .int .i64 kd, .int .i64 c, .int .i64 t] w fun e w' => e = .returned (.int .i64 n) ∧ MemAt w' a v M' ∧ Keeps (own2m a v) w w' := by
  subst h0
  exact do_any 1 1 4 2 1 kd c t a v M w hA (by decide) n hn h1 h2
theorem intTq : ∃ i, IntT 3 22 i := by
  obtain ⟨i, h1, h2, h3, h4⟩ := info_parts (show (Try.prog.info? 3).map (fun i => (i.zero, i.size, i.bytes)) = some (some (.int .i64 0), 1, 8) by kernel_rfl)
  exact ⟨i, by kernel_rfl, h1, h2, h3, h4⟩
def natsQ (l : List Nat) : List Int := l.map fun t : Nat => (t : Int)
theorem natsQ_len (l : List Nat) : (natsQ l).length = l.length := by simp [natsQ]
theorem natsQ_get (l : List Nat) (k : Nat) : (natsQ l).getD k 0 = ((l.getD k 0 : Nat) : Int) := by
  unfold natsQ
  rw [List.getD_eq_getElem?_getD, List.getD_eq_getElem?_getD, List.getElem?_map]
  cases l[k]? <;> rfl
/-- what lies where -/
structure ApQ (W : World) (G a : Nat) (v : Value) (B : Nat) : Prop where
  hw : W.heap.size ≤ G
  ha : a < G
  hv : ∀ g, v.ownBlock = some g → g < G
  hb : ¬ own2m a v B
  hg : B < G
theorem ApQ.na {W : World} {G a B : Nat} {v : Value} (h : ApQ W G a v B) {g : Nat} (hg : G ≤ g) : ¬ own2m a v g := not_own (fun e => by have := h.ha; omega) (fun e => by have := h.hv g e; omega)
structure CqS (W w : World) (a : Nat) (v : Value) (M : MemS) (G B : Nat) (vq : Nat → Value) (q : Nat → List Nat) (fl : Nat → Bool) : Prop where
  m : MemIn W w a v M
  mp : MapAt w B 1 1 4 2 1
  b : w.heap[G]? = some (.cells #[vq 0, vq 1] 91 (0, 0))
  f : w.heap[G + 1]? = some (.cells #[.bool (fl 0), .bool (fl 1), .bool (fl 2), .bool (fl 3)] 92 (0, 0))
  r : ∀ c, c < 2 → QRow 3 w (G + 2) (vq c) (natsQ (q c))
  ap : ∀ g, (vq 0).ownBlock = some g → (vq 1).ownBlock ≠ some g
theorem CqS.no {W w w' : World} {a : Nat} {v : Value} {M : MemS} {G B : Nat} {vq : Nat → Value} {q : Nat → List Nat} {fl : Nat → Bool} (h : CqS W w a v M G B vq q fl) (k : Keeps NoS w w') : CqS W w' a v M G B vq q fl :=
  ⟨h.m.keep k, h.mp.keep k (fun f => f), k.blk h.b (fun f => f), k.blk h.f (fun f => f), fun c hc => (h.r c hc).no k, h.ap⟩
theorem CqS.turn {W w w' : World} {a : Nat} {v : Value} {M M' : MemS} {G B : Nat} {vq : Nat → Value} {q : Nat → List Nat} {fl : Nat → Bool} (h : CqS W w a v M G B vq q fl) (hA : ApQ W G a v B) (hm : MemAt w' a v M') (k : Keeps (own2m a v) w w') : CqS W w' a v M' G B vq q fl :=
  ⟨h.m.turn hm k, h.mp.keep k hA.hb, k.blk h.b (hA.na (Nat.le_refl _)), k.blk h.f (hA.na (by omega)), fun c hc => (h.r c hc).keep k (fun g hg => hA.na (by have := (h.r c hc).lo hg; omega)), h.ap⟩
theorem CqS.cellB {W w : World} {a : Nat} {v : Value} {M : MemS} {G B : Nat} {vq : Nat → Value} {q : Nat → List Nat} {fl : Nat → Bool} (h : CqS W w a v M G B vq q fl) {c : Nat} (hc : c < 2) : w.cell? ⟨G, c, none⟩ = some (vq c) ∧ w.frozen? ⟨G, c, none⟩ = false ∧ G < w.heap.size := by
  refine ⟨?_, blk_free h.b c, blk_lt h.b⟩
  rw [blk_cell h.b]
  match c, hc with
  | 0, _ => rfl
  | 1, _ => rfl
theorem CqS.cellF {W w : World} {a : Nat} {v : Value} {M : MemS} {G B : Nat} {vq : Nat → Value} {q : Nat → List Nat} {fl : Nat → Bool} (h : CqS W w a v M G B vq q fl) {t : Nat} (ht : t < 4) : w.cell? ⟨G + 1, t, none⟩ = some (.bool (fl t)) ∧ w.frozen? ⟨G + 1, t, none⟩ = false ∧ G + 1 < w.heap.size := by
  refine ⟨?_, blk_free h.f t, blk_lt h.f⟩
  rw [blk_cell h.f]
  match t, ht with
  | 0, _ => rfl
  | 1, _ => rfl
  | 2, _ => rfl
  | 3, _ => rfl
theorem keeps_set (w : World) (g j : Nat) (u : Value) : Keeps (just g) w (w.setCell ⟨g, j, none⟩ u) := (Keeps.refl (just g) w).setCell (p := ⟨g, j, none⟩) (fun _ => rfl) u
theorem MemInT.far {T : TypeId} {S : Nat → Prop} {W w w' : World} {a G : Nat} {v : Value} {M : MemS} (h : MemInT T W w a v M) (hw : W.heap.size ≤ G) (ha : a < G) (hv : ∀ g, v.ownBlock = some g → g < G) (k : Keeps S w w') (hS : ∀ g, S g → G ≤ g) : MemInT T W w' a v M :=
  ⟨h.m.keep k (fun e => by have := hS _ e; omega) (fun g hg e => by have := hS _ e; have := hv g hg; omega), h.na, h.nv, h.kp.trans' k (fun i hi e => by have := hS _ e; omega)⟩
theorem CqS.setF {W w : World} {a : Nat} {v : Value} {M : MemS} {G B : Nat} {vq : Nat → Value} {q : Nat → List Nat} {fl : Nat → Bool} (h : CqS W w a v M G B vq q fl) (hA : ApQ W G a v B) {t : Nat} (ht : t < 4) (x : Bool) : CqS W (w.setCell ⟨G + 1, t, none⟩ (.bool x)) a v M G B vq q (setN fl t x) := by
  have k := keeps_set w (G + 1) t (.bool x)
  refine ⟨h.m.far hA.hw hA.ha hA.hv k (fun g e => by have e' : g = G + 1 := e; omega), h.mp.keep k (fun e => by have e' : B = G + 1 := e; have := hA.hg; omega), k.blk h.b (fun e => by have e' : G = G + 1 := e; omega), ?_, fun c hc => (h.r c hc).keep k (fun g hg e => by have e' : g = G + 1 := e; have := (h.r c hc).lo hg; omega), h.ap⟩
  rw [blk_set h.f t (.bool x)]
  match t, ht with
  | 0, _ => rfl
  | 1, _ => rfl
  | 2, _ => rfl
  | 3, _ => rfl
/-- a queue laid anew -/
theorem CqS.setQ {W w w1 : World} {a : Nat} {v : Value} {M : MemS} {G B : Nat} {vq : Nat → Value} {q : Nat → List Nat} {fl : Nat → Bool} (h : CqS W w a v M G B vq q fl) (hA : ApQ W G a v B) {c : Nat} (hc : c < 2) {v' : Value} {l' : List Nat} (k1 : Keeps (fun g => (vq c).ownBlock = some g) w w1) (hr : QRow 3 w1 (G + 2) v' (natsQ l')) (hb : ∀ g, v'.ownBlock = some g → (vq c).ownBlock = some g ∨ g = w.heap.size) :
    CqS W (w1.setCell ⟨G, c, none⟩ v') a v M G B (setN vq c v') (setN q c l') fl := by
  have hlo : ∀ g, (vq c).ownBlock = some g → G + 2 ≤ g := fun g hg => (h.r c hc).lo hg
  have k := keeps_set w1 G c v'
  have hm1 := h.m.far hA.hw hA.ha hA.hv k1 (fun g e => by have := hlo g e; omega)
  have hother : ∀ d, d < 2 → d ≠ c → ∀ g, (vq d).ownBlock = some g → ¬ (vq c).ownBlock = some g := fun d hd hdc g hg e => by
    match d, hd, c, hc with
    | 0, _, 1, _ => exact h.ap g hg e
    | 1, _, 0, _ => exact h.ap g e hg
    | 0, _, 0, _ => exact hdc rfl
    | 1, _, 1, _ => exact hdc rfl
  have hap : ∀ d, d < 2 → d ≠ c → ∀ g, (vq d).ownBlock = some g → v'.ownBlock ≠ some g := fun d hd hdc g hg e => by
    rcases hb g e with h1 | h1
    · exact hother d hd hdc g hg h1
    · have := (h.r d hd).lt hg; omega
  refine ⟨hm1.far hA.hw hA.ha hA.hv k (fun g e => by have e' : g = G := e; omega), (h.mp.keep k1 (fun e => by have := hlo _ e; have := hA.hg; omega)).keep k (fun e => by have e' : B = G := e; have := hA.hg; omega), ?_, k.blk (k1.blk h.f (fun e => by have := hlo _ e; omega)) (fun e => by have e' : G + 1 = G := e; omega), fun d hd => ?_, fun g hg => ?_⟩
  · have hb1 := k1.blk h.b (fun e => by have := hlo _ e; omega)
    rw [blk_set hb1 c v']
    match c, hc with
    | 0, _ => rfl
    | 1, _ => rfl
  · by_cases e : d = c
    · subst e; rw [setN_at, setN_at]; exact hr.keep k (fun g hg e => by have e' : g = G := e; have := hr.lo hg; omega)
    · rw [setN_ne _ _ e, setN_ne _ _ e]
      exact ((h.r d hd).keep k1 (fun g hg => hother d hd e g hg)).keep k (fun g hg e => by have e' : g = G := e; have := (h.r d hd).lo hg; omega)
  · match c, hc with
    | 0, _ => rw [setN_at] at hg; rw [setN_ne _ _ (by decide)]; exact fun e => hap 1 (by decide) (by decide) g e hg
    | 1, _ => rw [setN_at]; rw [setN_ne _ _ (by decide)] at hg; exact hap 0 (by decide) (by decide) g hg
theorem CqS.later {W w w1 : World} {a : Nat} {v : Value} {M : MemS} {G B : Nat} {vq : Nat → Value} {q : Nat → List Nat} {fl : Nat → Bool} (h : CqS W w a v M G B vq q fl) {c : Nat} (hc : c < 2) (k1 : Keeps (fun g => (vq c).ownBlock = some g) w w1) : w1.cell? ⟨G, c, none⟩ = some (vq c) ∧ w1.frozen? ⟨G, c, none⟩ = false ∧ G < w1.heap.size := by
  have hb := k1.blk h.b (fun e => by have := (h.r c hc).lo e; omega)
  refine ⟨?_, blk_free hb c, blk_lt hb⟩
  rw [blk_cell hb]
  match c, hc with
  | 0, _ => rfl
  | 1, _ => rfl
theorem slice_of {T : TypeId} {w : World} {lo : Nat} {v : Value} {l : List Int} (h : QRow T w lo v l) : ∃ p n c, v = .slice p n c := by
  obtain ⟨p, c, rfl⟩ := h.slice
  exact ⟨_, _, _, rfl⟩
theorem QRow.pop {T : TypeId} {w : World} {lo g off n cp : Nat} {l : List Int} (h : QRow T w lo (.slice (some ⟨g, off, none⟩) n cp) l) (hn : 0 < l.length) : QRow T w lo (.slice (if cp = 1 then some ⟨g, off, none⟩ else some ⟨g, off + 1, none⟩) (n - 1) (cp - 1)) l.tail := by
  obtain ⟨g', off', cp', hv, _, _, _, ht, _⟩ := h.form hn
  simp only [Value.slice.injEq, Option.some.injEq, Addr.mk.injEq] at hv
  obtain ⟨⟨rfl, rfl, _⟩, rfl, rfl⟩ := hv
  exact ht
theorem pop_own {cp g off n c : Nat} : ∀ g', (Value.slice (if cp = 1 then some ⟨g, off, none⟩ else some ⟨g, off + 1, none⟩) n c).ownBlock = some g' → (Value.slice (some ⟨g, off, none⟩) n c).ownBlock = some g' := by
  intro g' h
  by_cases e : cp = 1
  · rw [if_pos e] at h; simpa [Value.ownBlock] using h
  · rw [if_neg e] at h; simpa [Value.ownBlock] using h
theorem natsQ_tail (l : List Nat) : natsQ (l.drop 1) = (natsQ l).tail := by cases l <;> rfl
theorem cqS_new {W w2 : World} {a : Nat} {v : Value} {M : MemS} {G B : Nat} (hG : w2.heap.size = G) (hM : MemIn W w2 a v M) (hB : MapAt w2 B 1 1 4 2 1) (hBn : ¬ own2m a v B) (hBl : B < w2.heap.size) :
    ∃ w3, (w2.alloc (.cells #[.slice none 0 0, .slice none 0 0] 91)).alloc (.cells #[.bool false, .bool false, .bool false, .bool false] 92) = w3 ∧ CqS W w3 a v M G B (fun _ => .slice none 0 0) (fun _ => []) (fun _ => false) ∧ ApQ W G a v B := by
  subst hG
  have k : Keeps NoS w2 ((w2.alloc (.cells #[.slice none 0 0, .slice none 0 0] 91)).alloc (.cells #[.bool false, .bool false, .bool false, .bool false] 92)) := ((Keeps.refl NoS w2).alloc _).alloc _
  refine ⟨_, rfl, ⟨hM.keep k, hB.keep k (fun f => f), ?_, ?_, fun c hc => QRow.nil _ _ _, fun g hg => by simp [Value.ownBlock] at hg⟩, ⟨hM.kp.size, blk_lt hM.m.hd, fun g hg => hM.m.own_lt hg, hBn, hBl⟩⟩
  · exact ((Keeps.refl NoS _).alloc (.cells #[.bool false, .bool false, .bool false, .bool false] 92)).blk (heap_alloc_new w2 (.cells #[.slice none 0 0, .slice none 0 0] 91)) (fun f => f)
  · have h := heap_alloc_new (w2.alloc (.cells #[.slice none 0 0, .slice none 0 0] 91)) (.cells #[.bool false, .bool false, .bool false, .bool false] 92)
    simpa using h
set_option maxHeartbeats 80000000 in
set_option maxRecDepth 100000 in
theorem condqOrder_walk (w : World) (p0 : Value) (L : List Int) (f0 : InI w p0 L) (_f1 : ∀ k, k < L.length → (Lit.int .i64 (L.getD k 0)).wf = true) : Calls Try.prog 12 #[p0] w fun e w' => e = .returned (.bool true) ∧ Keeps NoS w w' := by
  obtain ⟨p, cap, rfl, hn, hc, _⟩ := f0
  have HW := Lib.hid hc
  clear hc _f1
  by_cases h80 : L.length ≤ 80
  case neg =>
    have h80' : (80 : Int) < (L.length : Int) := by omega
    go_enter Try.func12, Try.ntmps12
    go_wp2_with (go_at_call 40; refine (told20_any _).mono ?_; rintro e w1 ⟨rfl, hk1⟩)
    go_ret
    exact ⟨rfl, hk1⟩
  obtain ⟨i0, hi, hz0, hz1, hz2⟩ := info_parts infoI64
  have m1 : i0.bytes * 43 ≤ 281474976710656 := by rw [hz2]; omega
  have m2 : 43 ≤ maxLen := by unfold maxLen; omega
  obtain ⟨iT, hIT⟩ := intTq
  have HIT := Lib.hid hIT
  clear hIT
  go_enter Try.func12, Try.ntmps12
  go_wp2_with (go_at_call 39; refine (map20_any _).mono ?_; rintro e w1 ⟨rfl, hk1⟩)
  have hB := mapAt_new w1 1 1 4 2 1 25
  have hk1' := hk1.alloc (.cells #[.int .i64 1, .int .i64 1, .int .i64 4, .int .i64 2, .int .i64 1] 25)
  have hBl : w1.heap.size < (w1.alloc (.cells #[.int .i64 1, .int .i64 1, .int .i64 4, .int .i64 2, .int .i64 1] 25)).heap.size := by simp
  obtain ⟨B, hBe⟩ : ∃ B, w1.heap.size = B := ⟨_, rfl⟩
  rw [hBe] at hB hBl
  rw [hBe]
  generalize w1.alloc (.cells #[.int .i64 1, .int .i64 1, .int .i64 4, .int .i64 2, .int .i64 1] 25) = W at *
  refine (size_lit 1 1 4 2 1 43 size20 _).mono ?_
  rintro e w2 ⟨rfl, hk2⟩
  have hB2 := hB.keep hk2 (fun f => f)
  have hK2 := hk1'.trans hk2
  have hBl2 := Nat.lt_of_lt_of_le hBl hk2.size
  clear hk1' hk2 hB hk1 hBe hBl
  go_wp2_with (first
    | (refine wpList_make_full _ rfl _ _ 49 rfl 0 2 i0 (.int .i64 0) 1 Try.underlying49 hi hz0 hz1 .i64 .i64 _ _ 43 rfl rfl rfl rfl m1 m2 (Nat.zero_le _) ?_; intro w3 hown hgr; have hz := made_zeros w3 _ 43 hown; have hk3 : Keeps NoS w2 w3 := (Keeps.refl NoS w2).grown hgr (fun k hk => by cases hk); have hB3 := hB2.keep hk3 (fun f => f); have hK3 := hK2.trans hk3; clear hgr hown)
    | (go_at_call 28; refine (new_someN w2.heap.size 0 43 43 (List.replicate 43 0) w3 (by simp) (by decide) (by decide) hz).mono ?_; rintro e w4 ⟨a, v, rfl, hm4, ha, hv, hk⟩; have h4 := fresh_in hK3 hm4 ha hv hk; have hB4 := hB3.keep hk (fun f => f); have hnB : ¬ own2m a v B := not_own (fun e => by have := hk3.size; omega) (fun e => by have h' := hv B e; have := hk3.size; omega); have hBl4 : B < w4.heap.size := Nat.lt_of_lt_of_le (Nat.lt_of_lt_of_le hBl2 hk3.size) hk.size; obtain ⟨G, hG⟩ : ∃ G, w4.heap.size = G := ⟨_, rfl⟩; obtain ⟨w5, hw5, hx, hA⟩ := cqS_new hG h4 hB4 hnB hBl4; have HX := Lib.hid hx; have HA := Lib.hid hA; have HW5 := Lib.hid hw5; clear hx hA hw5 hm4 ha hv hk hz))
  clear hi hz0 hz1 hz2 m1 m2 hB2 hK2 hBl2 hk3 hB3 hK3 h4 hB4 hnB hBl4
  rw [HW5.out]
  (try rw [hG])
  clear hG HW5
  go_loopw [7] (fun i wq => ∃ (n : Nat) (M : MemS) (vq : Nat → Value) (q : Nat → List Nat) (fl : Nat → Bool), n ≤ L.length ∧ i = .int .i64 n ∧ CqI n M q fl ∧ CqS w wq a v M G B vq q fl) (fun i _ => L.length - (intOf i).toNat)
  case atStart => exact ⟨0, _, _, _, _, by omega, rfl, CqI.start, HX.out⟩
  case round =>
    obtain ⟨n, M, vq, q, fl, hnl, rfl, hi, hx⟩ := hrel
    have HI := Lib.hid hi
    have HX := Lib.hid hx
    clear hi hx
    by_cases hlt : n < L.length
    · obtain ⟨b, off, rfl, hcs⟩ := HW.out (fun e => by rw [e] at hlt; simp at hlt)
      have cn := HX.out.m.kp.cell (hcs n hlt) (fun f => f)
      clear hcs
      generalize L.getD n 0 = z at cn
      obtain ⟨c, hzc, hc⟩ := mod_bdO ((IntKind.u64.wrap z).tdiv 4) 2 (by decide) (by decide)
      obtain ⟨t, hzt, ht⟩ := mod_bdO ((IntKind.u64.wrap z).tdiv 8) 4 (by decide) (by decide)
      obtain ⟨m, hzm, hm⟩ := mod_bdO z 4 (by decide) (by decide)
      have hzc : (IntKind.u64.wrap ((IntKind.u64.wrap z).tdiv 4)).tmod 2 = (c : Int) := hzc
      have hzt : (IntKind.u64.wrap ((IntKind.u64.wrap z).tdiv 8)).tmod 4 = (t : Int) := hzt
      have hzm : (IntKind.u64.wrap z).tmod 4 = (m : Int) := hzm
      have c0 : (0 : Int) ≤ (c : Int) := by omega
      have c1 : (c : Int) < 2 := by omega
      have t0 : (0 : Int) ≤ (t : Int) := by omega
      have t1 : (t : Int) < 4 := by omega
      have hn0 : (0 : Int) ≤ (n : Int) := by omega
      have hn1 : (n : Int) < (L.length : Int) := by omega
      go_wp2_with fail
      go_quiet (fail)
      have hX0 := HX.out.no (Keeps.drewNs wr nq)
      have cn := (Keeps.drewNs (S := NoS) wr nq).cell cn (fun f => f)
      generalize wr.drewN nq = wd at *
      have HX := Lib.hid hX0
      clear hX0 hzc hzt
      have hm4 : m = 0 ∨ m = 1 ∨ m = 2 ∨ m = 3 := by omega
      obtain ⟨cb, cbf, cbl⟩ := HX.out.cellB hc
      obtain ⟨cf, cff, cfl⟩ := HX.out.cellF ht
      obtain ⟨b0, b1, b2, b3, b4⟩ := mapC20' HX.out.mp
      have hrc := HX.out.r c hc
      obtain ⟨hed, hen⟩ := HI.out.ed c hc
      have hhd := HI.out.hd c hc
      have hs4 := small4 (HI.out.lt c hc) (HI.out.nd c hc)
      have HLT := Lib.hid (HI.out.lt c hc)
      rcases hm4 with rfl | rfl | rfl | rfl
      · cases hft : fl t
        · obtain ⟨M', s1, s2, s3, s4, s5⟩ := sleep4 HI.out.len hc ht (e := M.word (30 + 6 * c)) rfl (by omega) (by omega)
          have hdo := do20' 1 c t a v M 4 (by decide) s1 s2 s3
          have hIQ := HI.out.sleep hc ht hft s4 s5
          have HDO := Lib.hid hdo; have HIQ := Lib.hid hIQ
          rw [hft] at cf
          clear s1 s2 s3 s4 s5 hdo hIQ hft
          have hlq : (natsQ (q c)).length ≤ 10000 := by rw [natsQ_len]; omega
          have HLQ := Lib.hid hlq
          clear hrc hlq
          go_wp2_with (first
            | (go_at_call 57; refine (HDO.out _ HX.out.m.m).mono ?_; rintro e w5 ⟨rfl, hm5, hk5⟩; have hX5 := HX.out.turn HA.out hm5 hk5; obtain ⟨cb, cbf, cbl⟩ := hX5.cellB hc; have hX6 := hX5.no ((Keeps.refl NoS w5).alloc (.cells #[.int .i64 t] 3)); have hzc := cells_new w5 [.int .i64 t] 3 0 (.int .i64 t) rfl; rw [add_zero_off] at hzc; have hfl : G + 2 ≤ (w5.alloc (.cells #[.int .i64 t] 3)).heap.size := blk_lt hX6.f; have HX6 := Lib.hid hX6; have HZC := Lib.hid hzc; clear hX5 hX6 hzc hm5 hk5)
            | (at_builtin; refine wpList_q1 HIT.out _ rfl (.tmp 96) (.tmp 98) rfl (G + 2) (vq c) (natsQ (q c)) rfl (HX6.out.r c hc) w5.heap.size _ (t : Int) rfl HZC.out HLQ.out hfl ?_; intro v9 w9 hr9 hk9 hb9; have hr9 : QRow 3 w9 (G + 2) v9 (natsQ (q c ++ [t])) := (by unfold natsQ at hr9 ⊢; rw [List.map_append]; exact hr9); obtain ⟨p9, n9, c9, rfl⟩ := slice_of hr9; have hX7 := HX6.out.setQ HA.out hc hk9 hr9 hb9; obtain ⟨cG, cGf, cGl⟩ := HX6.out.later hc hk9; obtain ⟨cf, cff, cfl⟩ := hX7.cellF ht; have HX7 := Lib.hid hX7; clear hr9 hb9 hX7))
          have hX8 := HX7.out.setF HA.out ht true
          generalize (w9.setCell ⟨G, c, none⟩ (.slice p9 n9 c9)).setCell ⟨G + 1, t, none⟩ (.bool true) = wz at *
          generalize setN vq c (.slice p9 n9 c9) = vq' at *
          generalize setN fl t true = fl' at *
          generalize setN q c (q c ++ [t]) = q' at *
          have HXT := Lib.hid hX8
          clear hX8 HX7 HX6 HZC HDO cG cGf cGl cf cff cfl hk9 cn
          clear HX HI b0 b1 b2 b3 b4 cb cbf cbl hed hen hhd hs4 HLQ
          go_wp2_with fail
          go_loopw [12] (fun uv wq => ∃ u : Nat, u ≤ 4 ∧ uv = .int .i64 u ∧ Keeps NoS wz wq) (fun uv _ => 4 - (intOf uv).toNat)
          case atStart => exact ⟨0, by omega, rfl, Keeps.refl _ _⟩
          case round =>
            obtain ⟨u, hu, rfl, hkw⟩ := hrel
            have hXu := HXT.out.no hkw
            have HXU := Lib.hid hXu
            have HKW := Lib.hid hkw
            clear hXu hkw
            obtain ⟨b0, b1, b2, b3, b4⟩ := mapC20' HXU.out.mp
            by_cases hu4 : u < 4
            · obtain ⟨cf, cff, cfl⟩ := HXU.out.cellF hu4
              have hA1 : flagP ⟨1, 1, 4, 2, 1⟩ u = (25 + u : Nat) := by have := flg20 u hu4; rw [this]; omega
              have hP1 : M'.atP ((25 + u : Nat) : Int) = if fl' u then 1 else 0 := by
                rw [← HIQ.out.fw u hu4]; unfold MemS.atP; rw [inR_nat (by rw [HIQ.out.len]; omega), if_pos rfl]; rfl
              have u0 : (0 : Int) ≤ (u : Int) := by omega
              have u1 : (u : Int) < 4 := by omega
              obtain ⟨A, hA⟩ : ∃ A : Int, ((25 + u : Nat) : Int) = A := ⟨_, rfl⟩
              rw [hA] at hA1 hP1
              have HA1 := Lib.hid hA1
              clear hA hA1
              cases hfu : fl' u
              · rw [hfu] at cf hP1
                have HP1 := Lib.hid hP1
                clear hP1 hfu
                go_wp2_with fail
                go_region_held3 (fun w' => (w'.cell? ⟨B, 0, none⟩ = some (.int .i64 1) ∧ w'.cell? ⟨B, 1, none⟩ = some (.int .i64 1) ∧ w'.cell? ⟨B, 2, none⟩ = some (.int .i64 4) ∧ w'.cell? ⟨B, 3, none⟩ = some (.int .i64 2) ∧ w'.cell? ⟨B, 4, none⟩ = some (.int .i64 1)) ∧ w'.cell? ⟨G + 1, u, none⟩ = some (.bool false)) (first | exact ⟨⟨b0, b1, b2, b3, b4⟩, cf⟩ | exact hs2 | exact hs3) (first
                  | (go_at_call 49; refine (flag_lit 1 1 4 2 1 u A HA1.out _).mono ?_; rintro e w6 ⟨rfl, hk6⟩; have hX6 := HXU.out.no ((Keeps.refl NoS _).drew.trans hk6); have hs2 := And.intro (mapC20' hX6.mp) (hk6.cell (p := ⟨G + 1, u, none⟩) cf (fun f => f)))
                  | (go_at_call 19; refine (peek_tot a v M' A _ hX6.m.m).mono ?_; rw [HP1.out]; rintro e w7 ⟨rfl, rfl⟩; have hs3 := hs2))
                go_wp2_with fail
                go_roundw
                case rel => exact ⟨u + 1, by omega, by go_num, HKW.out.trans ((Keeps.refl NoS _).drew.trans hk6)⟩
                case measure => simp [intOf]; omega
              · rw [hfu] at cf hP1
                have HP1 := Lib.hid hP1
                clear hP1 hfu
                go_wp2_with fail
                go_region_held3 (fun w' => (w'.cell? ⟨B, 0, none⟩ = some (.int .i64 1) ∧ w'.cell? ⟨B, 1, none⟩ = some (.int .i64 1) ∧ w'.cell? ⟨B, 2, none⟩ = some (.int .i64 4) ∧ w'.cell? ⟨B, 3, none⟩ = some (.int .i64 2) ∧ w'.cell? ⟨B, 4, none⟩ = some (.int .i64 1)) ∧ w'.cell? ⟨G + 1, u, none⟩ = some (.bool true)) (first | exact ⟨⟨b0, b1, b2, b3, b4⟩, cf⟩ | exact hs2 | exact hs3) (first
                  | (go_at_call 49; refine (flag_lit 1 1 4 2 1 u A HA1.out _).mono ?_; rintro e w6 ⟨rfl, hk6⟩; have hX6 := HXU.out.no ((Keeps.refl NoS _).drew.trans hk6); have hs2 := And.intro (mapC20' hX6.mp) (hk6.cell (p := ⟨G + 1, u, none⟩) cf (fun f => f)))
                  | (go_at_call 19; refine (peek_tot a v M' A _ hX6.m.m).mono ?_; rw [HP1.out]; rintro e w7 ⟨rfl, rfl⟩; have hs3 := hs2))
                go_wp2_with fail
                go_roundw
                case rel => exact ⟨u + 1, by omega, by go_num, HKW.out.trans ((Keeps.refl NoS _).drew.trans hk6)⟩
                case measure => simp [intOf]; omega
            · obtain rfl : u = 4 := by omega
              obtain ⟨cb, cbf, cbl⟩ := HXU.out.cellB hc
              obtain ⟨pq, cq, hvq⟩ := (HXU.out.r c hc).slice
              rw [hvq, natsQ_len] at cb
              obtain ⟨lq, hlq⟩ : ∃ lq, (q' c).length = lq := ⟨_, rfl⟩
              obtain ⟨hed, hen⟩ := HIQ.out.ed c hc
              have hhd := HIQ.out.hd c hc
              rw [hlq] at cb hed
              obtain ⟨A1, hA1⟩ : ∃ A1 : Int, condP ⟨1, 1, 4, 2, 1⟩ c 1 = A1 := ⟨_, rfl⟩
              obtain ⟨A0, hA0⟩ : ∃ A0 : Int, condP ⟨1, 1, 4, 2, 1⟩ c 0 = A0 := ⟨_, rfl⟩
              have hP1 : M'.atP A1 = M'.word (30 + 6 * c) := by
                have h1 : condP m20 c 1 = 29 + 6 * c + 1 := cnd20 c hc 1 (by omega)
                have e1 : A1 = ((30 + 6 * c : Nat) : Int) := by rw [← hA1, h1]; omega
                rw [e1]; unfold MemS.atP; rw [inR_nat (by rw [HIQ.out.len]; omega), if_pos rfl]; rfl
              have hP0 : M'.atP A0 = M'.word (29 + 6 * c) := by
                have h1 : condP m20 c 0 = 29 + 6 * c + 0 := cnd20 c hc 0 (by omega)
                have e1 : A0 = ((29 + 6 * c : Nat) : Int) := by rw [← hA0, h1]; omega
                rw [e1]; unfold MemS.atP; rw [inR_nat (by rw [HIQ.out.len]; omega), if_pos rfl]; rfl
              generalize M'.word (30 + 6 * c) = we at *
              generalize M'.word (29 + 6 * c) = wh at *
              have hwr : IntKind.i64.wrap (we - wh) = (lq : Int) := by rw [IntWalk.i64_in _ (by omega)]; omega
              have HA1 := Lib.hid hA1; have HA0 := Lib.hid hA0; have HP1 := Lib.hid hP1; have HP0 := Lib.hid hP0
              clear hA1 hA0 hP1 hP0 hlq hvq hed hen hhd
              go_wp2_with fail
              go_region_held3 (fun w' => (w'.cell? ⟨B, 0, none⟩ = some (.int .i64 1) ∧ w'.cell? ⟨B, 1, none⟩ = some (.int .i64 1) ∧ w'.cell? ⟨B, 2, none⟩ = some (.int .i64 4) ∧ w'.cell? ⟨B, 3, none⟩ = some (.int .i64 2) ∧ w'.cell? ⟨B, 4, none⟩ = some (.int .i64 1)) ∧ w'.cell? ⟨G, c, none⟩ = some (.slice pq lq cq)) (first | exact ⟨⟨b0, b1, b2, b3, b4⟩, cb⟩ | exact hs7 | exact hs6 | exact hs5 | exact hs2) (first
                | (go_at_call 19; refine (peek_tot a v M' A0 _ hX6.m.m).mono ?_; rw [HP0.out]; rintro e w8 ⟨rfl, rfl⟩; have hs7 := hs6)
                | (go_at_call 48; (with_reducible refine (cond_lit 1 1 4 2 1 c 0 A0 HA0.out _).mono ?_); rintro e w7 ⟨rfl, hk7⟩; have hX6 := hX5.no hk7; have hs6 := And.intro (mapC20' hX6.mp) (hk7.cell (p := ⟨G, c, none⟩) hs5.2 (fun f => f)))
                | (go_at_call 19; refine (peek_tot a v M' A1 _ hX5.m.m).mono ?_; rw [HP1.out]; rintro e w6 ⟨rfl, rfl⟩; have hs5 := hs2)
                | (go_at_call 48; (with_reducible refine (cond_lit 1 1 4 2 1 c 1 A1 HA1.out _).mono ?_); rintro e w5 ⟨rfl, hk5⟩; have hX5 := HXU.out.no ((Keeps.refl NoS _).drew.trans hk5); have hs2 := And.intro (mapC20' hX5.mp) (hk5.cell (p := ⟨G, c, none⟩) cb (fun f => f))))
              go_wp2_with fail
              go_roundw
              case rel => exact ⟨n + 1, M', vq', q', fl', by omega, by go_num, HIQ.out, hX6⟩
              case measure => simp [intOf]; omega
        · rw [hft] at cf
          clear hrc hft
          go_wp2_with fail
          go_roundw
          case rel => exact ⟨n + 1, M, vq, q, fl, by omega, by go_num, HI.out.mono (by omega), HX.out⟩
          case measure => simp [intOf]; omega
      · cases hft : fl t
        · obtain ⟨M', s1, s2, s3, s4, s5⟩ := sleep4 HI.out.len hc ht (e := M.word (30 + 6 * c)) rfl (by omega) (by omega)
          have hdo := do20' 1 c t a v M 4 (by decide) s1 s2 s3
          have hIQ := HI.out.sleep hc ht hft s4 s5
          have HDO := Lib.hid hdo; have HIQ := Lib.hid hIQ
          rw [hft] at cf
          clear s1 s2 s3 s4 s5 hdo hIQ hft
          have hlq : (natsQ (q c)).length ≤ 10000 := by rw [natsQ_len]; omega
          have HLQ := Lib.hid hlq
          clear hrc hlq
          go_wp2_with (first
            | (go_at_call 57; refine (HDO.out _ HX.out.m.m).mono ?_; rintro e w5 ⟨rfl, hm5, hk5⟩; have hX5 := HX.out.turn HA.out hm5 hk5; obtain ⟨cb, cbf, cbl⟩ := hX5.cellB hc; have hX6 := hX5.no ((Keeps.refl NoS w5).alloc (.cells #[.int .i64 t] 3)); have hzc := cells_new w5 [.int .i64 t] 3 0 (.int .i64 t) rfl; rw [add_zero_off] at hzc; have hfl : G + 2 ≤ (w5.alloc (.cells #[.int .i64 t] 3)).heap.size := blk_lt hX6.f; have HX6 := Lib.hid hX6; have HZC := Lib.hid hzc; clear hX5 hX6 hzc hm5 hk5)
            | (at_builtin; refine wpList_q1 HIT.out _ rfl (.tmp 96) (.tmp 98) rfl (G + 2) (vq c) (natsQ (q c)) rfl (HX6.out.r c hc) w5.heap.size _ (t : Int) rfl HZC.out HLQ.out hfl ?_; intro v9 w9 hr9 hk9 hb9; have hr9 : QRow 3 w9 (G + 2) v9 (natsQ (q c ++ [t])) := (by unfold natsQ at hr9 ⊢; rw [List.map_append]; exact hr9); obtain ⟨p9, n9, c9, rfl⟩ := slice_of hr9; have hX7 := HX6.out.setQ HA.out hc hk9 hr9 hb9; obtain ⟨cG, cGf, cGl⟩ := HX6.out.later hc hk9; obtain ⟨cf, cff, cfl⟩ := hX7.cellF ht; have HX7 := Lib.hid hX7; clear hr9 hb9 hX7))
          have hX8 := HX7.out.setF HA.out ht true
          generalize (w9.setCell ⟨G, c, none⟩ (.slice p9 n9 c9)).setCell ⟨G + 1, t, none⟩ (.bool true) = wz at *
          generalize setN vq c (.slice p9 n9 c9) = vq' at *
          generalize setN fl t true = fl' at *
          generalize setN q c (q c ++ [t]) = q' at *
          have HXT := Lib.hid hX8
          clear hX8 HX7 HX6 HZC HDO cG cGf cGl cf cff cfl hk9 cn
          clear HX HI b0 b1 b2 b3 b4 cb cbf cbl hed hen hhd hs4 HLQ
          go_wp2_with fail
          go_loopw [12] (fun uv wq => ∃ u : Nat, u ≤ 4 ∧ uv = .int .i64 u ∧ Keeps NoS wz wq) (fun uv _ => 4 - (intOf uv).toNat)
          case atStart => exact ⟨0, by omega, rfl, Keeps.refl _ _⟩
          case round =>
            obtain ⟨u, hu, rfl, hkw⟩ := hrel
            have hXu := HXT.out.no hkw
            have HXU := Lib.hid hXu
            have HKW := Lib.hid hkw
            clear hXu hkw
            obtain ⟨b0, b1, b2, b3, b4⟩ := mapC20' HXU.out.mp
            by_cases hu4 : u < 4
            · obtain ⟨cf, cff, cfl⟩ := HXU.out.cellF hu4
              have hA1 : flagP ⟨1, 1, 4, 2, 1⟩ u = (25 + u : Nat) := by have := flg20 u hu4; rw [this]; omega
              have hP1 : M'.atP ((25 + u : Nat) : Int) = if fl' u then 1 else 0 := by
                rw [← HIQ.out.fw u hu4]; unfold MemS.atP; rw [inR_nat (by rw [HIQ.out.len]; omega), if_pos rfl]; rfl
              have u0 : (0 : Int) ≤ (u : Int) := by omega
              have u1 : (u : Int) < 4 := by omega
              obtain ⟨A, hA⟩ : ∃ A : Int, ((25 + u : Nat) : Int) = A := ⟨_, rfl⟩
              rw [hA] at hA1 hP1
              have HA1 := Lib.hid hA1
              clear hA hA1
              cases hfu : fl' u
              · rw [hfu] at cf hP1
                have HP1 := Lib.hid hP1
                clear hP1 hfu
                go_wp2_with fail
                go_region_held3 (fun w' => (w'.cell? ⟨B, 0, none⟩ = some (.int .i64 1) ∧ w'.cell? ⟨B, 1, none⟩ = some (.int .i64 1) ∧ w'.cell? ⟨B, 2, none⟩ = some (.int .i64 4) ∧ w'.cell? ⟨B, 3, none⟩ = some (.int .i64 2) ∧ w'.cell? ⟨B, 4, none⟩ = some (.int .i64 1)) ∧ w'.cell? ⟨G + 1, u, none⟩ = some (.bool false)) (first | exact ⟨⟨b0, b1, b2, b3, b4⟩, cf⟩ | exact hs2 | exact hs3) (first
                  | (go_at_call 49; refine (flag_lit 1 1 4 2 1 u A HA1.out _).mono ?_; rintro e w6 ⟨rfl, hk6⟩; have hX6 := HXU.out.no ((Keeps.refl NoS _).drew.trans hk6); have hs2 := And.intro (mapC20' hX6.mp) (hk6.cell (p := ⟨G + 1, u, none⟩) cf (fun f => f)))
                  | (go_at_call 19; refine (peek_tot a v M' A _ hX6.m.m).mono ?_; rw [HP1.out]; rintro e w7 ⟨rfl, rfl⟩; have hs3 := hs2))
                go_wp2_with fail
                go_roundw
                case rel => exact ⟨u + 1, by omega, by go_num, HKW.out.trans ((Keeps.refl NoS _).drew.trans hk6)⟩
                case measure => simp [intOf]; omega
              · rw [hfu] at cf hP1
                have HP1 := Lib.hid hP1
                clear hP1 hfu
                go_wp2_with fail
                go_region_held3 (fun w' => (w'.cell? ⟨B, 0, none⟩ = some (.int .i64 1) ∧ w'.cell? ⟨B, 1, none⟩ = some (.int .i64 1) ∧ w'.cell? ⟨B, 2, none⟩ = some (.int .i64 4) ∧ w'.cell? ⟨B, 3, none⟩ = some (.int .i64 2) ∧ w'.cell? ⟨B, 4, none⟩ = some (.int .i64 1)) ∧ w'.cell? ⟨G + 1, u, none⟩ = some (.bool true)) (first | exact ⟨⟨b0, b1, b2, b3, b4⟩, cf⟩ | exact hs2 | exact hs3) (first
                  | (go_at_call 49; refine (flag_lit 1 1 4 2 1 u A HA1.out _).mono ?_; rintro e w6 ⟨rfl, hk6⟩; have hX6 := HXU.out.no ((Keeps.refl NoS _).drew.trans hk6); have hs2 := And.intro (mapC20' hX6.mp) (hk6.cell (p := ⟨G + 1, u, none⟩) cf (fun f => f)))
                  | (go_at_call 19; refine (peek_tot a v M' A _ hX6.m.m).mono ?_; rw [HP1.out]; rintro e w7 ⟨rfl, rfl⟩; have hs3 := hs2))
                go_wp2_with fail
                go_roundw
                case rel => exact ⟨u + 1, by omega, by go_num, HKW.out.trans ((Keeps.refl NoS _).drew.trans hk6)⟩
                case measure => simp [intOf]; omega
            · obtain rfl : u = 4 := by omega
              obtain ⟨cb, cbf, cbl⟩ := HXU.out.cellB hc
              obtain ⟨pq, cq, hvq⟩ := (HXU.out.r c hc).slice
              rw [hvq, natsQ_len] at cb
              obtain ⟨lq, hlq⟩ : ∃ lq, (q' c).length = lq := ⟨_, rfl⟩
              obtain ⟨hed, hen⟩ := HIQ.out.ed c hc
              have hhd := HIQ.out.hd c hc
              rw [hlq] at cb hed
              obtain ⟨A1, hA1⟩ : ∃ A1 : Int, condP ⟨1, 1, 4, 2, 1⟩ c 1 = A1 := ⟨_, rfl⟩
              obtain ⟨A0, hA0⟩ : ∃ A0 : Int, condP ⟨1, 1, 4, 2, 1⟩ c 0 = A0 := ⟨_, rfl⟩
              have hP1 : M'.atP A1 = M'.word (30 + 6 * c) := by
                have h1 : condP m20 c 1 = 29 + 6 * c + 1 := cnd20 c hc 1 (by omega)
                have e1 : A1 = ((30 + 6 * c : Nat) : Int) := by rw [← hA1, h1]; omega
                rw [e1]; unfold MemS.atP; rw [inR_nat (by rw [HIQ.out.len]; omega), if_pos rfl]; rfl
              have hP0 : M'.atP A0 = M'.word (29 + 6 * c) := by
                have h1 : condP m20 c 0 = 29 + 6 * c + 0 := cnd20 c hc 0 (by omega)
                have e1 : A0 = ((29 + 6 * c : Nat) : Int) := by rw [← hA0, h1]; omega
                rw [e1]; unfold MemS.atP; rw [inR_nat (by rw [HIQ.out.len]; omega), if_pos rfl]; rfl
              generalize M'.word (30 + 6 * c) = we at *
              generalize M'.word (29 + 6 * c) = wh at *
              have hwr : IntKind.i64.wrap (we - wh) = (lq : Int) := by rw [IntWalk.i64_in _ (by omega)]; omega
              have HA1 := Lib.hid hA1; have HA0 := Lib.hid hA0; have HP1 := Lib.hid hP1; have HP0 := Lib.hid hP0
              clear hA1 hA0 hP1 hP0 hlq hvq hed hen hhd
              go_wp2_with fail
              go_region_held3 (fun w' => (w'.cell? ⟨B, 0, none⟩ = some (.int .i64 1) ∧ w'.cell? ⟨B, 1, none⟩ = some (.int .i64 1) ∧ w'.cell? ⟨B, 2, none⟩ = some (.int .i64 4) ∧ w'.cell? ⟨B, 3, none⟩ = some (.int .i64 2) ∧ w'.cell? ⟨B, 4, none⟩ = some (.int .i64 1)) ∧ w'.cell? ⟨G, c, none⟩ = some (.slice pq lq cq)) (first | exact ⟨⟨b0, b1, b2, b3, b4⟩, cb⟩ | exact hs7 | exact hs6 | exact hs5 | exact hs2) (first
                | (go_at_call 19; refine (peek_tot a v M' A0 _ hX6.m.m).mono ?_; rw [HP0.out]; rintro e w8 ⟨rfl, rfl⟩; have hs7 := hs6)
                | (go_at_call 48; (with_reducible refine (cond_lit 1 1 4 2 1 c 0 A0 HA0.out _).mono ?_); rintro e w7 ⟨rfl, hk7⟩; have hX6 := hX5.no hk7; have hs6 := And.intro (mapC20' hX6.mp) (hk7.cell (p := ⟨G, c, none⟩) hs5.2 (fun f => f)))
                | (go_at_call 19; refine (peek_tot a v M' A1 _ hX5.m.m).mono ?_; rw [HP1.out]; rintro e w6 ⟨rfl, rfl⟩; have hs5 := hs2)
                | (go_at_call 48; (with_reducible refine (cond_lit 1 1 4 2 1 c 1 A1 HA1.out _).mono ?_); rintro e w5 ⟨rfl, hk5⟩; have hX5 := HXU.out.no ((Keeps.refl NoS _).drew.trans hk5); have hs2 := And.intro (mapC20' hX5.mp) (hk5.cell (p := ⟨G, c, none⟩) cb (fun f => f))))
              go_wp2_with fail
              go_roundw
              case rel => exact ⟨n + 1, M', vq', q', fl', by omega, by go_num, HIQ.out, hX6⟩
              case measure => simp [intOf]; omega
        · rw [hft] at cf
          clear hrc hft
          go_wp2_with fail
          go_roundw
          case rel => exact ⟨n + 1, M, vq, q, fl, by omega, by go_num, HI.out.mono (by omega), HX.out⟩
          case measure => simp [intOf]; omega
      · by_cases hq0 : (q c).length = 0
        · obtain ⟨M', s1, s2, s3, s4⟩ := wake2 HI.out.len hc ht (k := 2) (.inl rfl) (e := M.word (29 + 6 * c)) rfl (by rw [hed, hq0]; simp)
          have hdo := do20' 2 c t a v M 2 (by decide) s1 s2 s3
          have hI' := HI.out.same s4
          obtain ⟨pq, cq, hvq⟩ := hrc.slice
          rw [hvq, natsQ_len, hq0] at cb
          have HDO := Lib.hid hdo; have HIQ := Lib.hid hI'; have hcb : ∀ w', Keeps (own2m a v) wd w' → w'.cell? ⟨G, c, none⟩ = some (.slice pq 0 cq) := fun w' k => k.cell cb (HA.out.na (Nat.le_refl G))
          have HCB := Lib.hid hcb
          clear s1 s2 s3 s4 hdo hI' hq0 hvq hcb hrc hed hen hhd hs4 cf cff cfl
          go_wp2_with (go_at_call 57; refine (HDO.out _ HX.out.m.m).mono ?_; rintro e w5 ⟨rfl, hm5, hk5⟩; have hX5 := HX.out.turn HA.out hm5 hk5; have cb5 := HCB.out _ hk5; have HX5 := Lib.hid hX5; clear hX5 hm5 hk5)
          go_roundw
          case rel => exact ⟨n + 1, M', vq, q, fl, by omega, by go_num, HIQ.out.mono (by omega), HX5.out⟩
          case measure => simp [intOf]; omega
        · obtain ⟨u, hu⟩ : ∃ u, (q c).getD 0 0 = u := ⟨_, rfl⟩
          have humem : u ∈ q c := by rw [← hu, List.getD_eq_getElem?_getD, List.getElem?_eq_getElem (show 0 < (q c).length by omega)]; exact List.getElem_mem _
          have hu4 := HI.out.lt c hc u humem
          have hsl := HI.out.sl c hc 0 (by omega)
          rw [hu] at hsl
          have hsl' : M.word (sl20 c (M.word (29 + 6 * c))) = u + 1 := by simpa using hsl
          obtain ⟨M', s1, s2, s3, s4, s5⟩ := wake5 HI.out.len hc ht (h := M.word (29 + 6 * c)) (e := M.word (30 + 6 * c)) rfl rfl (by omega) hhd (by omega) hu4 hsl'
          have htk : (q c).take 1 = [u] := by
            cases hqc : q c with
            | nil => rw [hqc] at hq0; simp at hq0
            | cons x l => rw [hqc] at hu; simp at hu; simp [hu]
          have hIQ := HI.out.wake hc 1 (by omega) s4 (fun i => by
            rw [s5, htk]
            by_cases ei : i = 29 + 6 * c
            · rw [if_pos ei, if_pos ei]; rfl
            · rw [if_neg ei, if_neg ei]
              by_cases ej : i = 25 + u
              · rw [if_pos ej, if_pos ⟨by omega, by rw [ej]; simp⟩]
              · rw [if_neg ej, if_neg (fun h => ej (by have := List.mem_singleton.1 h.2; omega))]) (fl' := setN fl u false) (fun x => by
            rw [htk]
            by_cases e : x = u
            · subst e; rw [setN_at, if_pos (by simp)]
            · rw [setN_ne _ _ e, if_neg (by simpa using e)])
          have hdo := do20' 2 c t a v M 5 (by decide) s1 s2 s3
          obtain ⟨g, off, cp, hvq, hle, hmx, hcells, _, hgl⟩ := hrc.form (by rw [natsQ_len]; omega)
          have hqp : 0 < (natsQ (q c)).length := by rw [natsQ_len]; omega
          have c00 := hcells 0 hqp
          rw [natsQ_get, hu, Nat.add_zero] at c00
          have hglo : G + 2 ≤ g := hrc.lo (by rw [hvq]; rfl)
          rw [natsQ_len] at hvq hle
          obtain ⟨lq, hlq⟩ : ∃ lq, (q c).length = lq := ⟨_, rfl⟩
          rw [hlq] at hvq hle
          rw [hvq] at cb
          have hlq0 : ((lq : Int) == 0) = false := beq_eq_false_iff_ne.2 (by omega)
          have l1 : (1 : Int) ≤ (lq : Int) := by omega
          have l2 : (lq : Int) ≤ (cp : Int) := by omega
          have l3 : 0 < lq := by omega
          obtain ⟨pv, hpv⟩ : ∃ pv, (if cp = 1 then some ⟨g, off, none⟩ else some ⟨g, off + 1, none⟩ : Option Addr) = pv := ⟨_, rfl⟩
          have hc5 : ∀ w', Keeps (own2m a v) wd w' → w'.cell? ⟨G, c, none⟩ = some (.slice (some ⟨g, off, none⟩) lq cp) ∧ w'.cell? ⟨g, off, none⟩ = some (.int .i64 u) ∧ w'.frozen? ⟨G, c, none⟩ = false ∧ G < w'.heap.size := fun w' k => ⟨k.cell cb (HA.out.na (Nat.le_refl G)), k.cell c00 (HA.out.na (g := g) (by omega)), blk_free (k.blk HX.out.b (HA.out.na (Nat.le_refl G))) c, blk_lt (k.blk HX.out.b (HA.out.na (Nat.le_refl G)))⟩
          have hne1 : (g == G + 1) = false := beq_eq_false_iff_ne.2 (by omega)
          have hne2 : ¬ g = G + 1 := by omega
          have u0 : (0 : Int) ≤ (u : Int) := by omega
          have u1 : (u : Int) < 4 := by omega
          have HDO := Lib.hid hdo; have HIQ := Lib.hid hIQ; have HC5 := Lib.hid hc5; have HVQ := Lib.hid hvq; have HPV := Lib.hid hpv; have HLQ := Lib.hid hlq; have HQP := Lib.hid hqp
          clear s1 s2 s3 s4 s5 hdo hIQ hq0 hvq hc5 hrc hed hen hhd hs4 cf cff cfl hsl hsl' htk hcells c00 hlq hu humem hqp cb cbf cbl
          go_wp2_with (go_at_call 57; refine (HDO.out _ HX.out.m.m).mono ?_; rintro e w5 ⟨rfl, hm5, hk5⟩; have hX5 := HX.out.turn HA.out hm5 hk5; obtain ⟨cb, c00, cbf, cbl⟩ := HC5.out _ hk5; obtain ⟨cf, cff, cfl⟩ := hX5.cellF hu4; have HX5 := Lib.hid hX5; clear hX5 hm5 hk5)
          have hX6 := HX5.out.setF HA.out hu4 false
          have hr6 := hX6.r c hc
          rw [HVQ.out] at hr6
          have hX7 := hX6.setQ HA.out hc (v' := .slice pv (lq - 1) (cp - 1)) (l' := (q c).drop 1) (Keeps.refl _ _) (by rw [← HPV.out, natsQ_tail]; exact hr6.pop HQP.out) (fun g' h => .inl (by rw [HVQ.out]; rw [← HPV.out] at h; have := pop_own g' h; simpa [Value.ownBlock] using this))
          generalize (w5.setCell ⟨G + 1, u, none⟩ (.bool false)).setCell ⟨G, c, none⟩ (.slice pv (lq - 1) (cp - 1)) = wz at *
          generalize setN vq c (.slice pv (lq - 1) (cp - 1)) = vq' at *
          generalize setN fl u false = fl' at *
          generalize setN q c ((q c).drop 1) = q' at *
          have HXT := Lib.hid hX7
          clear hX7 hr6 hX6 HX5 HDO cb c00 cbf cbl cf cff cfl cn hpv l1 l2 l3 hlq0 hne1 hne2 hle hmx hgl hglo
          clear HX HI b0 b1 b2 b3 b4 HC5
          go_wp2_with fail
          go_loopw [12] (fun uv wq => ∃ u : Nat, u ≤ 4 ∧ uv = .int .i64 u ∧ Keeps NoS wz wq) (fun uv _ => 4 - (intOf uv).toNat)
          case atStart => exact ⟨0, by omega, rfl, Keeps.refl _ _⟩
          case round =>
            obtain ⟨u, hu, rfl, hkw⟩ := hrel
            have hXu := HXT.out.no hkw
            have HXU := Lib.hid hXu
            have HKW := Lib.hid hkw
            clear hXu hkw
            obtain ⟨b0, b1, b2, b3, b4⟩ := mapC20' HXU.out.mp
            by_cases hu4 : u < 4
            · obtain ⟨cf, cff, cfl⟩ := HXU.out.cellF hu4
              have hA1 : flagP ⟨1, 1, 4, 2, 1⟩ u = (25 + u : Nat) := by have := flg20 u hu4; rw [this]; omega
              have hP1 : M'.atP ((25 + u : Nat) : Int) = if fl' u then 1 else 0 := by
                rw [← HIQ.out.fw u hu4]; unfold MemS.atP; rw [inR_nat (by rw [HIQ.out.len]; omega), if_pos rfl]; rfl
              have u0 : (0 : Int) ≤ (u : Int) := by omega
              have u1 : (u : Int) < 4 := by omega
              obtain ⟨A, hA⟩ : ∃ A : Int, ((25 + u : Nat) : Int) = A := ⟨_, rfl⟩
              rw [hA] at hA1 hP1
              have HA1 := Lib.hid hA1
              clear hA hA1
              cases hfu : fl' u
              · rw [hfu] at cf hP1
                have HP1 := Lib.hid hP1
                clear hP1 hfu
                go_wp2_with fail
                go_region_held3 (fun w' => (w'.cell? ⟨B, 0, none⟩ = some (.int .i64 1) ∧ w'.cell? ⟨B, 1, none⟩ = some (.int .i64 1) ∧ w'.cell? ⟨B, 2, none⟩ = some (.int .i64 4) ∧ w'.cell? ⟨B, 3, none⟩ = some (.int .i64 2) ∧ w'.cell? ⟨B, 4, none⟩ = some (.int .i64 1)) ∧ w'.cell? ⟨G + 1, u, none⟩ = some (.bool false)) (first | exact ⟨⟨b0, b1, b2, b3, b4⟩, cf⟩ | exact hs2 | exact hs3) (first
                  | (go_at_call 49; refine (flag_lit 1 1 4 2 1 u A HA1.out _).mono ?_; rintro e w6 ⟨rfl, hk6⟩; have hX6 := HXU.out.no ((Keeps.refl NoS _).drew.trans hk6); have hs2 := And.intro (mapC20' hX6.mp) (hk6.cell (p := ⟨G + 1, u, none⟩) cf (fun f => f)))
                  | (go_at_call 19; refine (peek_tot a v M' A _ hX6.m.m).mono ?_; rw [HP1.out]; rintro e w7 ⟨rfl, rfl⟩; have hs3 := hs2))
                go_wp2_with fail
                go_roundw
                case rel => exact ⟨u + 1, by omega, by go_num, HKW.out.trans ((Keeps.refl NoS _).drew.trans hk6)⟩
                case measure => simp [intOf]; omega
              · rw [hfu] at cf hP1
                have HP1 := Lib.hid hP1
                clear hP1 hfu
                go_wp2_with fail
                go_region_held3 (fun w' => (w'.cell? ⟨B, 0, none⟩ = some (.int .i64 1) ∧ w'.cell? ⟨B, 1, none⟩ = some (.int .i64 1) ∧ w'.cell? ⟨B, 2, none⟩ = some (.int .i64 4) ∧ w'.cell? ⟨B, 3, none⟩ = some (.int .i64 2) ∧ w'.cell? ⟨B, 4, none⟩ = some (.int .i64 1)) ∧ w'.cell? ⟨G + 1, u, none⟩ = some (.bool true)) (first | exact ⟨⟨b0, b1, b2, b3, b4⟩, cf⟩ | exact hs2 | exact hs3) (first
                  | (go_at_call 49; refine (flag_lit 1 1 4 2 1 u A HA1.out _).mono ?_; rintro e w6 ⟨rfl, hk6⟩; have hX6 := HXU.out.no ((Keeps.refl NoS _).drew.trans hk6); have hs2 := And.intro (mapC20' hX6.mp) (hk6.cell (p := ⟨G + 1, u, none⟩) cf (fun f => f)))
                  | (go_at_call 19; refine (peek_tot a v M' A _ hX6.m.m).mono ?_; rw [HP1.out]; rintro e w7 ⟨rfl, rfl⟩; have hs3 := hs2))
                go_wp2_with fail
                go_roundw
                case rel => exact ⟨u + 1, by omega, by go_num, HKW.out.trans ((Keeps.refl NoS _).drew.trans hk6)⟩
                case measure => simp [intOf]; omega
            · obtain rfl : u = 4 := by omega
              obtain ⟨cb, cbf, cbl⟩ := HXU.out.cellB hc
              obtain ⟨pq, cq, hvq⟩ := (HXU.out.r c hc).slice
              rw [hvq, natsQ_len] at cb
              obtain ⟨lq, hlq⟩ : ∃ lq, (q' c).length = lq := ⟨_, rfl⟩
              obtain ⟨hed, hen⟩ := HIQ.out.ed c hc
              have hhd := HIQ.out.hd c hc
              rw [hlq] at cb hed
              obtain ⟨A1, hA1⟩ : ∃ A1 : Int, condP ⟨1, 1, 4, 2, 1⟩ c 1 = A1 := ⟨_, rfl⟩
              obtain ⟨A0, hA0⟩ : ∃ A0 : Int, condP ⟨1, 1, 4, 2, 1⟩ c 0 = A0 := ⟨_, rfl⟩
              have hP1 : M'.atP A1 = M'.word (30 + 6 * c) := by
                have h1 : condP m20 c 1 = 29 + 6 * c + 1 := cnd20 c hc 1 (by omega)
                have e1 : A1 = ((30 + 6 * c : Nat) : Int) := by rw [← hA1, h1]; omega
                rw [e1]; unfold MemS.atP; rw [inR_nat (by rw [HIQ.out.len]; omega), if_pos rfl]; rfl
              have hP0 : M'.atP A0 = M'.word (29 + 6 * c) := by
                have h1 : condP m20 c 0 = 29 + 6 * c + 0 := cnd20 c hc 0 (by omega)
                have e1 : A0 = ((29 + 6 * c : Nat) : Int) := by rw [← hA0, h1]; omega
                rw [e1]; unfold MemS.atP; rw [inR_nat (by rw [HIQ.out.len]; omega), if_pos rfl]; rfl
              generalize M'.word (30 + 6 * c) = we at *
              generalize M'.word (29 + 6 * c) = wh at *
              have hwr : IntKind.i64.wrap (we - wh) = (lq : Int) := by rw [IntWalk.i64_in _ (by omega)]; omega
              have HA1 := Lib.hid hA1; have HA0 := Lib.hid hA0; have HP1 := Lib.hid hP1; have HP0 := Lib.hid hP0
              clear hA1 hA0 hP1 hP0 hlq hvq hed hen hhd
              go_wp2_with fail
              go_region_held3 (fun w' => (w'.cell? ⟨B, 0, none⟩ = some (.int .i64 1) ∧ w'.cell? ⟨B, 1, none⟩ = some (.int .i64 1) ∧ w'.cell? ⟨B, 2, none⟩ = some (.int .i64 4) ∧ w'.cell? ⟨B, 3, none⟩ = some (.int .i64 2) ∧ w'.cell? ⟨B, 4, none⟩ = some (.int .i64 1)) ∧ w'.cell? ⟨G, c, none⟩ = some (.slice pq lq cq)) (first | exact ⟨⟨b0, b1, b2, b3, b4⟩, cb⟩ | exact hs7 | exact hs6 | exact hs5 | exact hs2) (first
                | (go_at_call 19; refine (peek_tot a v M' A0 _ hX6.m.m).mono ?_; rw [HP0.out]; rintro e w8 ⟨rfl, rfl⟩; have hs7 := hs6)
                | (go_at_call 48; (with_reducible refine (cond_lit 1 1 4 2 1 c 0 A0 HA0.out _).mono ?_); rintro e w7 ⟨rfl, hk7⟩; have hX6 := hX5.no hk7; have hs6 := And.intro (mapC20' hX6.mp) (hk7.cell (p := ⟨G, c, none⟩) hs5.2 (fun f => f)))
                | (go_at_call 19; refine (peek_tot a v M' A1 _ hX5.m.m).mono ?_; rw [HP1.out]; rintro e w6 ⟨rfl, rfl⟩; have hs5 := hs2)
                | (go_at_call 48; (with_reducible refine (cond_lit 1 1 4 2 1 c 1 A1 HA1.out _).mono ?_); rintro e w5 ⟨rfl, hk5⟩; have hX5 := HXU.out.no ((Keeps.refl NoS _).drew.trans hk5); have hs2 := And.intro (mapC20' hX5.mp) (hk5.cell (p := ⟨G, c, none⟩) cb (fun f => f))))
              go_wp2_with fail
              go_roundw
              case rel => exact ⟨n + 1, M', vq', q', fl', by omega, by go_num, HIQ.out, hX6⟩
              case measure => simp [intOf]; omega
      · obtain ⟨M', s1, s2, s3, s4, s5⟩ := HI.out.cast (by omega) hc ht
        have hIQ := HI.out.wake hc (q c).length (Nat.le_refl _) s4 s5 (fl' := fun x => if x ∈ (q c).take (q c).length then false else fl x) (fun _ => rfl)
        have hdo := do20' 3 c t a v M (2 + 3 * (q c).length) (by omega) s1 s2 s3
        obtain ⟨lq, hlq⟩ : ∃ lq, (q c).length = lq := ⟨_, rfl⟩
        obtain ⟨pq, cq, hvq⟩ := hrc.slice
        rw [natsQ_len, hlq] at hvq
        rw [hvq] at cb
        rw [hlq] at hdo hIQ hed hs4
        have hnn : ((2 + 3 * lq : Nat) : Int) = 2 + 3 * (lq : Int) := by omega
        obtain ⟨nn, hn2⟩ : ∃ nn, 2 + 3 * (lq : Int) = nn := ⟨_, rfl⟩
        rw [hnn, hn2] at hdo
        have l0 : (0 : Int) ≤ (lq : Int) := by omega
        have l4 : (lq : Int) ≤ 4 := by omega
        have HDO := Lib.hid hdo; have HIQ := Lib.hid hIQ; have HVQ := Lib.hid hvq; have HLQ := Lib.hid hlq
        have hw1 : IntKind.i64.wrap (3 * (lq : Int)) = 3 * (lq : Int) := IntWalk.i64_in _ (by omega)
        have hw2 : IntKind.i64.wrap (2 + 3 * (lq : Int)) = nn := by rw [IntWalk.i64_in _ (by omega)]; exact hn2
        clear s1 s2 s3 s4 s5 hdo hIQ hvq hlq hrc hed hen hhd hs4 cf cff cfl hnn hn2
        go_wp2_with fail
        go_region_held3 (fun w' => (w'.cell? ⟨B, 0, none⟩ = some (.int .i64 1) ∧ w'.cell? ⟨B, 1, none⟩ = some (.int .i64 1) ∧ w'.cell? ⟨B, 2, none⟩ = some (.int .i64 4) ∧ w'.cell? ⟨B, 3, none⟩ = some (.int .i64 2) ∧ w'.cell? ⟨B, 4, none⟩ = some (.int .i64 1)) ∧ w'.cell? ⟨G, c, none⟩ = some (.slice pq lq cq)) (first | exact ⟨⟨b0, b1, b2, b3, b4⟩, cb⟩ | exact hs5) ((go_at_call 57; refine (HDO.out _ (HX.out.no ((Keeps.refl NoS _).drew)).m.m).mono ?_; rintro e w5 ⟨rfl, hm5, hk5⟩; have hX5 := (HX.out.no ((Keeps.refl NoS _).drew)).turn HA.out hm5 hk5; have hs5 := And.intro (mapC20' hX5.mp) (hk5.cell (p := ⟨G, c, none⟩) cb (HA.out.na (Nat.le_refl G)))))
        have HX5 := Lib.hid hX5
        clear hs5 hX5 hm5 hk5 hw1 hw2 b0 b1 b2 b3 b4 cb cbf cbl cn HX HI HDO
        go_wp2_with fail
        go_loopw [11] (fun kv wq => ∃ k : Nat, k ≤ lq ∧ kv = .int .i64 k ∧ CqS w wq a v M' G B vq q (fun x => if x ∈ (q c).take k then false else fl x)) (fun kv _ => lq - (intOf kv).toNat)
        case atStart => exact ⟨0, by omega, rfl, by simpa using HX5.out⟩
        case round =>
          obtain ⟨k, hk, rfl, hx⟩ := hrel
          have HXK := Lib.hid hx
          clear hx HX5
          obtain ⟨cb, cbf, cbl⟩ := HXK.out.cellB hc
          rw [HVQ.out] at cb
          have k0 : (0 : Int) ≤ (k : Int) := by omega
          by_cases hkl : k < lq
          · obtain ⟨u, hu⟩ : ∃ u, (q c).getD k 0 = u := ⟨_, rfl⟩
            have hkq : k < (q c).length := by rw [HLQ.out]; exact hkl
            have humem : u ∈ q c := by rw [← hu, List.getD_eq_getElem?_getD, List.getElem?_eq_getElem hkq]; exact List.getElem_mem _
            have htk : (q c).take (k + 1) = (q c).take k ++ [u] := by
              rw [List.take_succ_eq_append_getElem hkq, ← hu, List.getD_eq_getElem?_getD, List.getElem?_eq_getElem hkq]; rfl
            have hu4 : u < 4 := HLT.out u humem
            obtain ⟨g, off, cp, hvq, hle, hmx, hcells, _, hgl⟩ := (HXK.out.r c hc).form (by rw [natsQ_len]; omega)
            have ck := hcells k (by rw [natsQ_len]; exact hkq)
            rw [natsQ_get, hu] at ck
            rw [HVQ.out, natsQ_len, HLQ.out] at hvq
            simp only [Value.slice.injEq] at hvq
            obtain ⟨hpq, _, hcc⟩ := hvq
            rw [hpq] at cb
            have k1 : (k : Int) < (lq : Int) := by omega
            have u0 : (0 : Int) ≤ (u : Int) := by omega
            have u1 : (u : Int) < 4 := by omega
            obtain ⟨cf, cff, cfl⟩ := HXK.out.cellF hu4
            have hX6 := HXK.out.setF HA.out hu4 false
            have hfun : setN (fun x => if x ∈ (q c).take k then false else fl x) u false = (fun x => if x ∈ (q c).take (k + 1) then false else fl x) := by
              funext x
              rw [htk]
              by_cases e : x = u
              · subst e; rw [setN_at, if_pos (by simp)]
              · rw [setN_ne _ _ e]; simp [e]
            rw [hfun] at hX6
            have HX6 := Lib.hid hX6
            clear hX6 hfun htk humem hcells hu hpq hcc hle hmx hgl hkq
            go_wp2_with fail
            go_roundw
            case rel => exact ⟨k + 1, by omega, by go_num, HX6.out⟩
            case measure => simp [intOf]; omega
          · obtain rfl : k = lq := by omega
            have hX7 := HXK.out.setQ HA.out hc (v' := .slice none 0 0) (l' := (q c).drop k) (Keeps.refl _ _) (by rw [List.drop_of_length_le (by rw [HLQ.out]; omega)]; exact QRow.nil _ _ _) (fun g' h => by simp [Value.ownBlock] at h)
            have HX7 := Lib.hid hX7
            clear hX7
            go_upto_region 37 with fail
            have hX7 := HX7.out
            generalize wr.setCell ⟨G, c, none⟩ (.slice none 0 0) = wz at *
            generalize setN vq c (.slice none 0 0) = vq' at *
            generalize setN q c ((q c).drop k) = q' at *
            generalize (fun x => if x ∈ (q c).take k then false else fl x) = fl' at *
            have HXT := Lib.hid hX7
            clear hX7 HX7 cb cbf cbl HXK
            go_wp2_with fail
            go_loopw [12] (fun uv wq => ∃ u : Nat, u ≤ 4 ∧ uv = .int .i64 u ∧ Keeps NoS wz wq) (fun uv _ => 4 - (intOf uv).toNat)
            case atStart => exact ⟨0, by omega, rfl, Keeps.refl _ _⟩
            case round =>
              obtain ⟨u, hu, rfl, hkw⟩ := hrel
              have hXu := HXT.out.no hkw
              have HXU := Lib.hid hXu
              have HKW := Lib.hid hkw
              clear hXu hkw
              obtain ⟨b0, b1, b2, b3, b4⟩ := mapC20' HXU.out.mp
              by_cases hu4 : u < 4
              · obtain ⟨cf, cff, cfl⟩ := HXU.out.cellF hu4
                have hA1 : flagP ⟨1, 1, 4, 2, 1⟩ u = (25 + u : Nat) := by have := flg20 u hu4; rw [this]; omega
                have hP1 : M'.atP ((25 + u : Nat) : Int) = if fl' u then 1 else 0 := by
                  rw [← HIQ.out.fw u hu4]; unfold MemS.atP; rw [inR_nat (by rw [HIQ.out.len]; omega), if_pos rfl]; rfl
                have u0 : (0 : Int) ≤ (u : Int) := by omega
                have u1 : (u : Int) < 4 := by omega
                obtain ⟨A, hA⟩ : ∃ A : Int, ((25 + u : Nat) : Int) = A := ⟨_, rfl⟩
                rw [hA] at hA1 hP1
                have HA1 := Lib.hid hA1
                clear hA hA1
                cases hfu : fl' u
                · rw [hfu] at cf hP1
                  have HP1 := Lib.hid hP1
                  clear hP1 hfu
                  go_wp2_with fail
                  go_region_held3 (fun w' => (w'.cell? ⟨B, 0, none⟩ = some (.int .i64 1) ∧ w'.cell? ⟨B, 1, none⟩ = some (.int .i64 1) ∧ w'.cell? ⟨B, 2, none⟩ = some (.int .i64 4) ∧ w'.cell? ⟨B, 3, none⟩ = some (.int .i64 2) ∧ w'.cell? ⟨B, 4, none⟩ = some (.int .i64 1)) ∧ w'.cell? ⟨G + 1, u, none⟩ = some (.bool false)) (first | exact ⟨⟨b0, b1, b2, b3, b4⟩, cf⟩ | exact hs2 | exact hs3) (first
                    | (go_at_call 49; refine (flag_lit 1 1 4 2 1 u A HA1.out _).mono ?_; rintro e w6 ⟨rfl, hk6⟩; have hX6 := HXU.out.no ((Keeps.refl NoS _).drew.trans hk6); have hs2 := And.intro (mapC20' hX6.mp) (hk6.cell (p := ⟨G + 1, u, none⟩) cf (fun f => f)))
                    | (go_at_call 19; refine (peek_tot a v M' A _ hX6.m.m).mono ?_; rw [HP1.out]; rintro e w7 ⟨rfl, rfl⟩; have hs3 := hs2))
                  go_wp2_with fail
                  go_roundw
                  case rel => exact ⟨u + 1, by omega, by go_num, HKW.out.trans ((Keeps.refl NoS _).drew.trans hk6)⟩
                  case measure => simp [intOf]; omega
                · rw [hfu] at cf hP1
                  have HP1 := Lib.hid hP1
                  clear hP1 hfu
                  go_wp2_with fail
                  go_region_held3 (fun w' => (w'.cell? ⟨B, 0, none⟩ = some (.int .i64 1) ∧ w'.cell? ⟨B, 1, none⟩ = some (.int .i64 1) ∧ w'.cell? ⟨B, 2, none⟩ = some (.int .i64 4) ∧ w'.cell? ⟨B, 3, none⟩ = some (.int .i64 2) ∧ w'.cell? ⟨B, 4, none⟩ = some (.int .i64 1)) ∧ w'.cell? ⟨G + 1, u, none⟩ = some (.bool true)) (first | exact ⟨⟨b0, b1, b2, b3, b4⟩, cf⟩ | exact hs2 | exact hs3) (first
                    | (go_at_call 49; refine (flag_lit 1 1 4 2 1 u A HA1.out _).mono ?_; rintro e w6 ⟨rfl, hk6⟩; have hX6 := HXU.out.no ((Keeps.refl NoS _).drew.trans hk6); have hs2 := And.intro (mapC20' hX6.mp) (hk6.cell (p := ⟨G + 1, u, none⟩) cf (fun f => f)))
                    | (go_at_call 19; refine (peek_tot a v M' A _ hX6.m.m).mono ?_; rw [HP1.out]; rintro e w7 ⟨rfl, rfl⟩; have hs3 := hs2))
                  go_wp2_with fail
                  go_roundw
                  case rel => exact ⟨u + 1, by omega, by go_num, HKW.out.trans ((Keeps.refl NoS _).drew.trans hk6)⟩
                  case measure => simp [intOf]; omega
              · obtain rfl : u = 4 := by omega
                obtain ⟨cb, cbf, cbl⟩ := HXU.out.cellB hc
                obtain ⟨pq, cq, hvq⟩ := (HXU.out.r c hc).slice
                rw [hvq, natsQ_len] at cb
                obtain ⟨lq, hlq⟩ : ∃ lq, (q' c).length = lq := ⟨_, rfl⟩
                obtain ⟨hed, hen⟩ := HIQ.out.ed c hc
                have hhd := HIQ.out.hd c hc
                rw [hlq] at cb hed
                obtain ⟨A1, hA1⟩ : ∃ A1 : Int, condP ⟨1, 1, 4, 2, 1⟩ c 1 = A1 := ⟨_, rfl⟩
                obtain ⟨A0, hA0⟩ : ∃ A0 : Int, condP ⟨1, 1, 4, 2, 1⟩ c 0 = A0 := ⟨_, rfl⟩
                have hP1 : M'.atP A1 = M'.word (30 + 6 * c) := by
                  have h1 : condP m20 c 1 = 29 + 6 * c + 1 := cnd20 c hc 1 (by omega)
                  have e1 : A1 = ((30 + 6 * c : Nat) : Int) := by rw [← hA1, h1]; omega
                  rw [e1]; unfold MemS.atP; rw [inR_nat (by rw [HIQ.out.len]; omega), if_pos rfl]; rfl
                have hP0 : M'.atP A0 = M'.word (29 + 6 * c) := by
                  have h1 : condP m20 c 0 = 29 + 6 * c + 0 := cnd20 c hc 0 (by omega)
                  have e1 : A0 = ((29 + 6 * c : Nat) : Int) := by rw [← hA0, h1]; omega
                  rw [e1]; unfold MemS.atP; rw [inR_nat (by rw [HIQ.out.len]; omega), if_pos rfl]; rfl
                generalize M'.word (30 + 6 * c) = we at *
                generalize M'.word (29 + 6 * c) = wh at *
                have hwr : IntKind.i64.wrap (we - wh) = (lq : Int) := by rw [IntWalk.i64_in _ (by omega)]; omega
                have HA1 := Lib.hid hA1; have HA0 := Lib.hid hA0; have HP1 := Lib.hid hP1; have HP0 := Lib.hid hP0
                clear hA1 hA0 hP1 hP0 hlq hvq hed hen hhd
                go_wp2_with fail
                go_region_held3 (fun w' => (w'.cell? ⟨B, 0, none⟩ = some (.int .i64 1) ∧ w'.cell? ⟨B, 1, none⟩ = some (.int .i64 1) ∧ w'.cell? ⟨B, 2, none⟩ = some (.int .i64 4) ∧ w'.cell? ⟨B, 3, none⟩ = some (.int .i64 2) ∧ w'.cell? ⟨B, 4, none⟩ = some (.int .i64 1)) ∧ w'.cell? ⟨G, c, none⟩ = some (.slice pq lq cq)) (first | exact ⟨⟨b0, b1, b2, b3, b4⟩, cb⟩ | exact hs7 | exact hs6 | exact hs5 | exact hs2) (first
                  | (go_at_call 19; refine (peek_tot a v M' A0 _ hX6.m.m).mono ?_; rw [HP0.out]; rintro e w8 ⟨rfl, rfl⟩; have hs7 := hs6)
                  | (go_at_call 48; (with_reducible refine (cond_lit 1 1 4 2 1 c 0 A0 HA0.out _).mono ?_); rintro e w7 ⟨rfl, hk7⟩; have hX6 := hX5.no hk7; have hs6 := And.intro (mapC20' hX6.mp) (hk7.cell (p := ⟨G, c, none⟩) hs5.2 (fun f => f)))
                  | (go_at_call 19; refine (peek_tot a v M' A1 _ hX5.m.m).mono ?_; rw [HP1.out]; rintro e w6 ⟨rfl, rfl⟩; have hs5 := hs2)
                  | (go_at_call 48; (with_reducible refine (cond_lit 1 1 4 2 1 c 1 A1 HA1.out _).mono ?_); rintro e w5 ⟨rfl, hk5⟩; have hX5 := HXU.out.no ((Keeps.refl NoS _).drew.trans hk5); have hs2 := And.intro (mapC20' hX5.mp) (hk5.cell (p := ⟨G, c, none⟩) cb (fun f => f))))
                go_wp2_with fail
                go_roundw
                case rel => exact ⟨n + 1, M', vq', q', fl', by omega, by go_num, HIQ.out, hX6⟩
                case measure => simp [intOf]; omega
    · obtain rfl : n = L.length := by omega
      go_wp2_with (go_at_call 40; refine (told20_any _).mono ?_; rintro e w8 ⟨rfl, hk8⟩)
      go_ret
      exact ⟨rfl, HX.out.m.kp.trans hk8⟩
end Go.Proofs.Ytodaiogefgdcpaa
