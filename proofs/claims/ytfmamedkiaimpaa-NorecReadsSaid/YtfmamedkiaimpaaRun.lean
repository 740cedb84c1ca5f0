/- A run of an attempt by its plan (chapter 16's laws): its block, its plan, what it read. -/
import Derived.Test.YtfmamedkiaimpaaTxJ
import Derived.Test.YtfmamedkiaimpaaRow
import Derived.Test.YtfmamedkiaimpaaHeldT
namespace Go.Proofs.Ytfmamedkiaimpaa
open Go.RowKit
/-- a plan's rows: kind, place, number -/
abbrev OpZ := Int × Int × Int
def op0 : OpZ := (0, 0, 0)
structure RunM where
  P : List OpZ
  i : Int
  busy : Bool
  fin : Int
  rd : List (Int × Int)
def ruC (X : Nat) (pv rdv : Value) (u : RunM) : Array Value := #[.pointer (some ⟨X, 0, none⟩), pv, .int .i64 u.i, .bool u.busy, .int .i64 u.fin, rdv]
def PlanAt (w : World) (pv : Value) (P : List OpZ) : Prop :=
  (pv = .slice none 0 0 ∧ P = []) ∨ ∃ g cap, pv = .slice (some ⟨g, 0, none⟩) P.length cap ∧ g < w.heap.size ∧
    ∀ k, k < P.length → w.cell? ⟨g, k * 3, none⟩ = some (.int .i64 (P.getD k op0).1) ∧ w.cell? ⟨g, k * 3 + 1, none⟩ = some (.int .i64 (P.getD k op0).2.1) ∧ w.cell? ⟨g, k * 3 + 2, none⟩ = some (.int .i64 (P.getD k op0).2.2)
theorem PlanAt.keep {S : Nat → Prop} {w w' : World} {pv : Value} {P : List OpZ} (h : PlanAt w pv P) (k : Keeps S w w') (hS : ∀ g, pv.ownBlock = some g → ¬ S g) : PlanAt w' pv P := by
  rcases h with h | ⟨g, cap, rfl, hg, hc⟩
  · exact .inl h
  · have hn := hS g rfl
    exact .inr ⟨g, cap, rfl, Nat.lt_of_lt_of_le hg k.size, fun j hj => ⟨k.cell (hc j hj).1 hn, k.cell (hc j hj).2.1 hn, k.cell (hc j hj).2.2 hn⟩⟩
theorem PlanAt.sl {w : World} {pv : Value} {P : List OpZ} (h : PlanAt w pv P) : ∃ p c, pv = .slice p P.length c := by
  rcases h with ⟨rfl, rfl⟩ | ⟨g, cap, rfl, _⟩
  · exact ⟨_, _, rfl⟩
  · exact ⟨_, _, rfl⟩
structure NR (w : World) (a : Nat) (v : Value) (M : MemS) (X ra wa : Nat) (rv wv vv : Value) (t : TxS) (U : Nat) (pv rdv : Value) (u : RunM) : Prop where
  nx : NX w a v M X ra wa rv wv vv t
  hd : w.heap[U]? = some (.cells (ruC X pv rdv u) 45 (0, 0))
  pl : PlanAt w pv u.P
  rd : w.ownsRow 0 54 2 rdv u.rd.length (flat u.rd)
  dU : ¬ (txO X ra wa rv wv vv U ∨ own2m a v U)
  dP : ∀ g, pv.ownBlock = some g → g < w.heap.size ∧ g ≠ U ∧ ¬ (txO X ra wa rv wv vv g ∨ own2m a v g)
  dR : ∀ g, rdv.ownBlock = some g → g ≠ U ∧ pv.ownBlock ≠ some g ∧ ¬ (txO X ra wa rv wv vv g ∨ own2m a v g)
/-- the blocks of a run, its attempt, the memory -/
def ruO (a : Nat) (v : Value) (X ra wa : Nat) (rv wv vv : Value) (U : Nat) (rdv : Value) : Nat → Prop := fun g => (txO X ra wa rv wv vv g ∨ own2m a v g) ∨ g = U ∨ rdv.ownBlock = some g
def NRP (w w' : World) (a : Nat) (v : Value) (M : MemS) (X ra wa : Nat) (rv wv vv : Value) (t : TxS) (U : Nat) (pv rdv : Value) (u : RunM) : Prop :=
  ∃ rv' wv' vv' rdv', NR w' a v M X ra wa rv' wv' vv' t U pv rdv' u ∧ Keeps (ruO a v X ra wa rv wv vv U rdv) w w' ∧ ∀ g, ruO a v X ra wa rv' wv' vv' U rdv' g → ruO a v X ra wa rv wv vv U rdv g ∨ w.heap.size ≤ g
section
variable {w w' w2 : World} {a X ra wa U : Nat} {v rv wv vv pv rdv : Value} {M M' : MemS} {t t' : TxS} {u u' : RunM}
theorem NR.c (h : NR w a v M X ra wa rv wv vv t U pv rdv u) (k : Nat) {z : Value} (hz : (ruC X pv rdv u)[k]? = some z) : w.cell? ⟨U, k, none⟩ = some z := by rw [blk_cell h.hd, hz]
theorem NR.f (h : NR w a v M X ra wa rv wv vv t U pv rdv u) (k : Nat) : w.frozen? ⟨U, k, none⟩ = false := blk_free h.hd k
theorem NR.lt (h : NR w a v M X ra wa rv wv vv t U pv rdv u) : U < w.heap.size := blk_lt h.hd
theorem NR.no (h : NR w a v M X ra wa rv wv vv t U pv rdv u) (k : Keeps NoS w w') : NR w' a v M X ra wa rv wv vv t U pv rdv u :=
  ⟨h.nx.no k, k.blk h.hd (fun f => f), h.pl.keep k (fun _ _ f => f), k.owns h.rd (fun _ _ f => f), h.dU, fun g e => ⟨Nat.lt_of_lt_of_le (h.dP g e).1 k.size, (h.dP g e).2⟩, h.dR⟩
theorem NR.self (h : NR w a v M X ra wa rv wv vv t U pv rdv u) : NRP w w a v M X ra wa rv wv vv t U pv rdv u := ⟨rv, wv, vv, rdv, h, Keeps.refl _ _, fun _ e => .inl e⟩
theorem NRP.no (h : NRP w w' a v M X ra wa rv wv vv t U pv rdv u) (k : Keeps NoS w' w2) : NRP w w2 a v M X ra wa rv wv vv t U pv rdv u := by
  obtain ⟨rv', wv', vv', rdv', h1, h2, h3⟩ := h
  exact ⟨rv', wv', vv', rdv', h1.no k, h2.trans k.no, h3⟩
theorem NRP.then {rv1 wv1 vv1 rdv1 : Value} (k : Keeps (ruO a v X ra wa rv wv vv U rdv) w w') (hg : ∀ g, ruO a v X ra wa rv1 wv1 vv1 U rdv1 g → ruO a v X ra wa rv wv vv U rdv g ∨ w.heap.size ≤ g)
    (h : NRP w' w2 a v M X ra wa rv1 wv1 vv1 t U pv rdv1 u) : NRP w w2 a v M X ra wa rv wv vv t U pv rdv u := by
  obtain ⟨r2, w2', v2, d2, g1, g2, g3⟩ := h
  refine ⟨r2, w2', v2, d2, g1, k.trans' g2 (fun i hi e => (hg i e).elim id (fun h => by omega)), fun g e => ?_⟩
  rcases g3 g e with e2 | e2
  · exact hg g e2
  · have := k.size; exact .inr (by omega)
theorem NR.bd (h : NR w a v M X ra wa rv wv vv t U pv rdv u) {g : Nat} (e : txO X ra wa rv wv vv g ∨ own2m a v g) : g < w.heap.size := by
  rcases e with e | e
  · rcases e with z | z | z | z | z | z
    · rw [z]; exact h.nx.tx.lt
    · rw [z]; exact h.nx.tx.ralt
    · rw [z]; exact h.nx.tx.walt
    · exact h.nx.tx.rvlt z
    · exact h.nx.tx.wvlt z
    · exact h.nx.tx.vvlt z
  · exact h.nx.lt e
/-- the attempt goes on -/
theorem NR.tx (h : NR w a v M X ra wa rv wv vv t U pv rdv u) (k : NXP w w' a v M' X ra wa rv wv vv t') : NRP w w' a v M' X ra wa rv wv vv t' U pv rdv u := by
  obtain ⟨rv', wv', vv', h1, h2, h3⟩ := k
  have hn : ∀ g, (txO X ra wa rv' wv' vv' g ∨ own2m a v g) → (txO X ra wa rv wv vv g ∨ own2m a v g) ∨ w.heap.size ≤ g := fun g e => e.elim (fun e => (h3 g e).elim (fun e => .inl (.inl e)) .inr) (fun e => .inl (.inr e))
  have hn2 : ∀ g, g < w.heap.size → ¬ (txO X ra wa rv wv vv g ∨ own2m a v g) → ¬ (txO X ra wa rv' wv' vv' g ∨ own2m a v g) := fun g hl e e2 => (hn g e2).elim e (fun h => by omega)
  exact ⟨rv', wv', vv', rdv, ⟨h1, h2.blk h.hd h.dU, h.pl.keep h2 (fun g e => (h.dP g e).2.2), h2.owns h.rd (fun g e => (h.dR g e).2.2), hn2 U h.lt h.dU,
    fun g e => ⟨Nat.lt_of_lt_of_le (h.dP g e).1 h2.size, (h.dP g e).2.1, hn2 g (h.dP g e).1 (h.dP g e).2.2⟩, fun g e => ⟨(h.dR g e).1, (h.dR g e).2.1, hn2 g (h.rd.lt g e).2 (h.dR g e).2.2⟩⟩,
    h2.mono (fun g e => .inl e), fun g e => e.elim (fun e => (hn g e).imp .inl id) (fun e => .inl (.inr e))⟩
theorem keepsU (w : World) (a : Nat) (v : Value) (X ra wa : Nat) (rv wv vv : Value) (U : Nat) (rdv : Value) (k : Nat) (z : Value) : Keeps (ruO a v X ra wa rv wv vv U rdv) w (w.setCell ⟨U, k, none⟩ z) := (Keeps.refl _ w).setCell (p := ⟨U, k, none⟩) (fun _ => .inr (.inl rfl)) z
/-- a field of the run is laid anew -/
theorem NR.set (h : NR w a v M X ra wa rv wv vv t U pv rdv u) (k : Nat) (z : Value) {u' : RunM} (hc : (ruC X pv rdv u).setIfInBounds k z = ruC X pv rdv u') (hP : u'.P = u.P) (hr : u'.rd = u.rd) : NR (w.setCell ⟨U, k, none⟩ z) a v M X ra wa rv wv vv t U pv rdv u' := by
  have kk : Keeps (fun g => g = U) w (w.setCell ⟨U, k, none⟩ z) := (Keeps.refl (fun g => g = U) w).setCell (p := ⟨U, k, none⟩) (fun _ => rfl) z
  refine ⟨h.nx.far kk (fun g e e2 => h.dU (e2 ▸ e)), by rw [← hc]; exact blk_set h.hd k z, ?_, ?_, h.dU, fun g e => ⟨Nat.lt_of_lt_of_le (h.dP g e).1 kk.size, (h.dP g e).2⟩, h.dR⟩
  · rw [hP]; exact h.pl.keep kk (fun g e e2 => (h.dP g e).2.1 e2)
  · rw [hr]; exact kk.owns h.rd (fun g e e2 => (h.dR g e).1 e2)
theorem NR.kz (h : NR w' a v M' X ra wa rv wv vv t' U pv rdv u') (k : Keeps (ruO a v X ra wa rv wv vv U rdv) w w') : NRP w w' a v M' X ra wa rv wv vv t' U pv rdv u' := ⟨rv, wv, vv, rdv, h, k, fun _ e => .inl e⟩
theorem NR.rsl (h : NR w a v M X ra wa rv wv vv t U pv rdv u) : ∃ p c, rdv = .slice p u.rd.length c := owns_slice h.rd
/-- one more is read -/
theorem NR.rput {w3 : World} {rdv' : Value} {o : Obj} {k x : Int} (h : NR w a v M X ra wa rv wv vv t U pv rdv u)
    (hown : w3.ownsRow 0 54 2 rdv' (u.rd.length + 1) (flat u.rd ++ [.int .i64 k, .int .i64 x])) (hgr : (w.alloc o).grownBy w3 rdv.ownBlock) (hob : ∀ g, rdv'.ownBlock = some g → rdv.ownBlock = some g ∨ g = (w.alloc o).heap.size) :
    NRP w (w3.setCell ⟨U, 5, none⟩ rdv') a v M X ra wa rv wv vv t U pv rdv { u with rd := u.rd ++ [(k, x)] } ∧ w3.heap[U]? = some (.cells (ruC X pv rdv u) 45 (0, 0)) := by
  have hob2 : ∀ g, rdv'.ownBlock = some g → rdv.ownBlock = some g ∨ w.heap.size ≤ g := fun g e => (hob g e).imp id (fun e2 => by simp at e2; omega)
  have k1 : Keeps (fun g => rdv.ownBlock = some g) w w3 := ((Keeps.refl _ _).alloc _).grown hgr (fun k hk _ => hk)
  have kS : Keeps (fun g => g = U ∨ rdv.ownBlock = some g) w (w3.setCell ⟨U, 5, none⟩ rdv') := (k1.mono fun g e => .inr e).setCell (p := ⟨U, 5, none⟩) (fun _ => .inl rfl) _
  have hU := k1.blk h.hd (fun e => (h.dR U e).1 rfl)
  have hUl := h.lt
  have hne : ∀ g, rdv'.ownBlock = some g → g ≠ U ∧ pv.ownBlock ≠ some g ∧ ¬ (txO X ra wa rv wv vv g ∨ own2m a v g) := fun g e => (hob2 g e).elim (h.dR g) (fun hl => ⟨by omega, fun e => by have := (h.dP g e).1; omega, fun e => by have := h.bd e; omega⟩)
  refine ⟨⟨rv, wv, vv, rdv', ⟨h.nx.far kS (fun g e e2 => e2.elim (fun e2 => h.dU (e2 ▸ e)) (fun e2 => (h.dR g e2).2.2 e)), blk_set hU 5 rdv', h.pl.keep kS (fun g e e2 => e2.elim (h.dP g e).2.1 (fun e2 => (h.dR g e2).2.1 e)), ?_, h.dU, fun g e => ⟨Nat.lt_of_lt_of_le (h.dP g e).1 kS.size, (h.dP g e).2⟩, hne⟩, kS.mono (fun g e => .inr e), fun g e => ?_⟩, hU⟩
  · have : w3.ownsRow 0 54 2 rdv' (u.rd ++ [(k, x)]).length (flat (u.rd ++ [(k, x)])) := by rw [flat_snoc, List.length_append]; exact hown
    exact owns_setCell this (fun e => (hne U e).1 rfl) _
  · rcases e with e | e | e
    · exact .inl (.inl e)
    · exact .inl (.inr (.inl e))
    · exact (hob2 g e).imp (fun e => .inr (.inr e)) id
end
/-- what is written: what was read there last, and x -/
def valU (rd : List (Int × Int)) (at_ x : Int) : Int := rd.foldl (fun z e => if e.1 = at_ then wrap64 (e.2 + x) else z) x
theorem valU_succ (rd : List (Int × Int)) (at_ x : Int) (k : Nat) (h : k < rd.length) : valU (rd.take (k + 1)) at_ x = if (rd.getD k (0, 0)).1 = at_ then wrap64 ((rd.getD k (0, 0)).2 + x) else valU (rd.take k) at_ x := by
  rw [valU, List.take_succ_eq_append_getElem h, List.foldl_append, getD_at _ _ _ h]
  rfl
set_option maxHeartbeats 4000000 in
set_option maxRecDepth 100000 in
theorem rvalue_any {w : World} {a X ra wa U : Nat} {v rv wv vv pv rdv : Value} {M : MemS} {t : TxS} {u : RunM} (h : NR w a v M X ra wa rv wv vv t U pv rdv u) (kd at_ x : Int) (hb : u.rd.length < 1000000) :
    Calls Try.prog 67 #[.pointer (some ⟨U, 0, none⟩), .agg #[.int .i64 kd, .int .i64 at_, .int .i64 x]] w fun e w' => e = .returned (.int .i64 (valU u.rd at_ x)) ∧ Keeps NoS w w' := by
  have c5 := h.c 5 (z := rdv) rfl
  have hl := h.lt
  obtain ⟨p, cp, hs⟩ := h.rsl
  subst hs
  have HOW := Lib.hid (owns_words h.rd)
  clear h
  generalize u.rd = rd at *
  go_enter Try.func67, Try.ntmps67
  go_upto_region 1 with fail
  have hk0 := (Keeps.refl NoS w).alloc (.cells #[.int .i64 kd, .int .i64 at_, .int .i64 x] 39)
  have b1 : (w.alloc (.cells #[.int .i64 kd, .int .i64 at_, .int .i64 x] 39)).cell? ⟨w.heap.size, 1, none⟩ = some (.int .i64 at_) := by rw [blk_cell (heap_alloc_new _ _)]; rfl
  have b2 : (w.alloc (.cells #[.int .i64 kd, .int .i64 at_, .int .i64 x] 39)).cell? ⟨w.heap.size, 2, none⟩ = some (.int .i64 x) := by rw [blk_cell (heap_alloc_new _ _)]; rfl
  have hBl : w.heap.size < (w.alloc (.cells #[.int .i64 kd, .int .i64 at_, .int .i64 x] 39)).heap.size := by simp
  obtain ⟨B, hB⟩ : ∃ B, w.heap.size = B := ⟨_, rfl⟩
  rw [hB] at b1 b2 hBl ⊢
  generalize w.alloc (.cells #[.int .i64 kd, .int .i64 at_, .int .i64 x] 39) = W at *
  go_upto_region 2 with fail
  have HC := Lib.hid (show ∀ w', Keeps NoS W w' → w'.cell? ⟨U, 5, none⟩ = some (.slice p rd.length cp) ∧ w'.cell? ⟨B, 1, none⟩ = some (.int .i64 at_) ∧ w'.cell? ⟨B, 2, none⟩ = some (.int .i64 x) ∧ U < w'.heap.size ∧ B < w'.heap.size from fun w' k => ⟨(hk0.trans k).cell c5 (fun f => f), k.cell b1 (fun f => f), k.cell b2 (fun f => f), Nat.lt_of_lt_of_le hl (hk0.trans k).size, Nat.lt_of_lt_of_le hBl k.size⟩)
  clear c5 b1 b2 hl hBl hB
  go_wp2_with fail
  go_loopw [5, 6] (fun z i wr => ∃ k : Nat, k ≤ rd.length ∧ i = .int .i64 k ∧ z = .int .i64 (valU (rd.take k) at_ x) ∧ Keeps NoS W wr) (fun _ i _ => rd.length - (intOf i).toNat)
  case atStart => exact ⟨0, by omega, rfl, rfl, Keeps.refl _ _⟩
  case round =>
    obtain ⟨k, hk, rfl, rfl, hkeep⟩ := hrel
    obtain ⟨d0, d1, d2, d3, d4⟩ := HC.out _ hkeep
    by_cases hlt : k < rd.length
    · have e1 : decide ((k : Int) < (rd.length : Int)) = true := by simpa using hlt
      rcases HOW.out with ⟨_, hv⟩ | ⟨g, cap, hvv, hgl, hgf, hcs⟩
      · rw [hv] at hlt; exact absurd hlt (by simp)
      injection hvv with hv1 hv2 hv3
      subst hv1 hv3
      have f0 := (hk0.trans hkeep).cell (hcs k hlt).1 (fun f => f)
      have f1 := (hk0.trans hkeep).cell (hcs k hlt).2 (fun f => f)
      have HS := Lib.hid (valU_succ rd at_ x k hlt)
      clear hcs hgf
      have k0 : (0 : Int) ≤ (k : Int) := by omega
      have k1 : (k : Int) < (rd.length : Int) := by omega
      obtain ⟨z0, hz0⟩ : ∃ z, valU (rd.take k) at_ x = z := ⟨_, rfl⟩
      rw [hz0] at HS ⊢
      obtain ⟨q, hq⟩ : ∃ q, rd.getD k (0, 0) = q := ⟨_, rfl⟩
      obtain ⟨qa, qv⟩ := q
      rw [hq] at f0 f1 HS
      dsimp only at f0 f1
      clear hz0 hq
      go_upto_region 5 with fail
      go_quiet (fail)
      by_cases hq : qa = at_
      · have e2 : (qa == at_) = true := by simpa using hq
        have HZ := Lib.hid (show valU (rd.take (k + 1)) at_ x = wrap64 (qv + x) by rw [HS.out, if_pos hq])
        clear hq HS
        go_upto_region 6 with fail
        go_quiet (fail)
        go_wp2_with fail
        go_roundw
        case measure => simp [intOf]; omega
        case rel => exact ⟨k + 1, by omega, by go_num, by rw [HZ.out, ← wrap_w], hkeep.drewN _⟩
      · have e2 : (qa == at_) = false := by simpa using hq
        have HZ := Lib.hid (show valU (rd.take (k + 1)) at_ x = z0 by rw [HS.out, if_neg hq])
        clear hq HS
        go_wp2_with fail
        go_roundw
        case measure => simp [intOf]; omega
        case rel => exact ⟨k + 1, by omega, by go_num, by rw [HZ.out], hkeep.drewN _⟩
    · have e1 : decide ((k : Int) < (rd.length : Int)) = false := decide_eq_false (by omega)
      have hk' : k = rd.length := by omega
      have HV : valU (rd.take k) at_ x = valU rd at_ x := by rw [hk', List.take_length]
      rw [HV]
      clear HV hk'
      go_wp2_with fail
      go_ret
      exact ⟨rfl, hk0.trans hkeep⟩
def doneU (u : RunM) (val : Int) : RunM :=
  if (u.P.length : Int) < u.i then { u with busy := false, fin := 1 }
  else if 0 < u.i ∧ (u.P.getD (u.i.toNat - 1) op0).1 = 0 then { u with busy := false, rd := u.rd ++ [((u.P.getD (u.i.toNat - 1) op0).2.1, val)], i := u.i + 1 }
  else { u with busy := false, i := u.i + 1 }
section
variable {w : World} {a X ra wa U : Nat} {v rv wv vv pv rdv : Value} {M : MemS} {t : TxS} {u : RunM}
/-- behind done's first store -/
theorem NR.idle (h : NR w a v M X ra wa rv wv vv t U pv rdv u) : NR (w.setCell ⟨U, 3, none⟩ (.bool false)) a v M X ra wa rv wv vv t U pv rdv { u with busy := false } := h.set 3 (.bool false) rfl rfl rfl
end
set_option maxHeartbeats 4000000 in
set_option maxRecDepth 100000 in
theorem rdone_any {w : World} {a X ra wa U : Nat} {v rv wv vv pv rdv : Value} {M : MemS} {t : TxS} {u : RunM} (h : NR w a v M X ra wa rv wv vv t U pv rdv u) (h0 : 0 ≤ u.i) (hP : u.P.length < 1000000) (hr : u.rd.length < 1000000) (ms ml mt mc md : Int) :
    Calls Try.prog 39 #[.pointer (some ⟨U, 0, none⟩), .agg #[.int .i64 ms, .int .i64 ml, .int .i64 mt, .int .i64 mc, .int .i64 md]] w fun e w' => e = .returned (.tuple #[]) ∧ NRP w w' a v M X ra wa rv wv vv t U pv rdv (doneU u t.value) := by
  obtain ⟨pp, pc, hpv⟩ := h.pl.sl
  have hk0 := (Keeps.refl NoS w).alloc (.cells #[.int .i64 ms, .int .i64 ml, .int .i64 mt, .int .i64 mc, .int .i64 md] 31)
  have H0 := Lib.hid (h.no hk0)
  have H1 := Lib.hid (h.no hk0).idle
  have HK1 := Lib.hid ((hk0.no (S := ruO a v X ra wa rv wv vv U rdv)).trans (keepsU _ a v X ra wa rv wv vv U rdv 3 (.bool false)))
  clear hk0
  by_cases hA : (u.P.length : Int) < u.i
  · rw [show doneU u t.value = { u with busy := false, fin := 1 } by unfold doneU; rw [if_pos hA]]
    have e1 : decide ((u.P.length : Int) < u.i) = true := decide_eq_true hA
    clear hA
    subst hpv
    have b3 := H0.out.c 3 (z := .bool u.busy) rfl; have f3 := H0.out.f 3; have hl := H0.out.lt
    go_enter Try.func39, Try.ntmps39
    go_upto_region 2 with fail
    clear b3 f3 hl
    have b1 := H1.out.c 1 (z := .slice pp u.P.length pc) rfl; have b2 := H1.out.c 2 (z := .int .i64 u.i) rfl; have b4 := H1.out.c 4 (z := .int .i64 u.fin) rfl; have f4 := H1.out.f 4; have hl := H1.out.lt
    have H2 := Lib.hid (fun n => (H1.out.no ((Keeps.refl NoS _).drewN n)).set 4 (.int .i64 1) (u' := { u with busy := false, fin := 1 }) rfl rfl rfl)
    generalize (w.alloc (.cells #[.int .i64 ms, .int .i64 ml, .int .i64 mt, .int .i64 mc, .int .i64 md] 31)).setCell ⟨U, 3, none⟩ (.bool false) = W at *
    go_quiet (fail)
    go_wp2_with fail
    (first | go_end0 | ((try simp only [Exit.inBlock, Exit.then]); refine bodyPost_ret (results_none rfl _ _ _) rfl ?_))
    exact ⟨rfl, (H2.out _).kz ((HK1.out.drewN _).trans (keepsU _ a v X ra wa rv wv vv U rdv 4 (.int .i64 1)))⟩
  · have e1 : decide ((u.P.length : Int) < u.i) = false := decide_eq_false hA
    by_cases hz : u.i = 0
    · rw [show doneU u t.value = { u with busy := false, i := u.i + 1 } by unfold doneU; rw [if_neg hA, if_neg (by omega)]]
      have e2 : decide (u.i > 0) = false := decide_eq_false (by omega)
      have hw : IntKind.i64.wrap (u.i + 1) = u.i + 1 := IntWalk.i64_in _ (by omega)
      clear hA hz
      subst hpv
      have b3 := H0.out.c 3 (z := .bool u.busy) rfl; have f3 := H0.out.f 3; have hl := H0.out.lt
      go_enter Try.func39, Try.ntmps39
      go_upto_region 2 with fail
      clear b3 f3 hl
      have b1 := H1.out.c 1 (z := .slice pp u.P.length pc) rfl; have b2 := H1.out.c 2 (z := .int .i64 u.i) rfl; have hl := H1.out.lt
      have f2 := H1.out.f 2
      have H2 := Lib.hid (fun n => (H1.out.no ((Keeps.refl NoS _).drewN n)).set 2 (.int .i64 (u.i + 1)) (u' := { u with busy := false, i := u.i + 1 }) rfl rfl rfl)
      generalize (w.alloc (.cells #[.int .i64 ms, .int .i64 ml, .int .i64 mt, .int .i64 mc, .int .i64 md] 31)).setCell ⟨U, 3, none⟩ (.bool false) = W at *
      go_quiet (fail)
      go_upto_region 4 with fail
      go_quiet (fail)
      go_wp2_with fail
      (try rw [hw])
      (first | go_end0 | ((try simp only [Exit.inBlock, Exit.then]); refine bodyPost_ret (results_none rfl _ _ _) rfl ?_))
      exact ⟨rfl, (H2.out _).kz ((HK1.out.drewN _).trans (keepsU _ a v X ra wa rv wv vv U rdv 2 (.int .i64 (u.i + 1))))⟩
    · obtain ⟨k, hk⟩ : ∃ k : Nat, u.i = (k : Int) + 1 := ⟨u.i.toNat - 1, by omega⟩
      have hkl : k < u.P.length := by omega
      have hke : u.i.toNat - 1 = k := by omega
      rcases h.pl with ⟨_, hv⟩ | ⟨pg, pcap, hvv, hgl, hcs⟩
      · rw [hv] at hkl; exact absurd hkl (by simp)
      obtain ⟨d0, d1, d2⟩ := hcs k hkl
      obtain ⟨⟨kd, at_, x⟩, hq⟩ : ∃ q, u.P.getD k op0 = q := ⟨_, rfl⟩
      have hD : doneU u t.value = (if kd = 0 then { u with busy := false, rd := u.rd ++ [(at_, t.value)], i := u.i + 1 } else { u with busy := false, i := u.i + 1 }) := by
        unfold doneU; rw [if_neg hA, hke, hq]; simp [show 0 < u.i by omega]
      rw [hq] at d0 d1 d2
      dsimp only at d0 d1 d2
      have e2 : decide (u.i > 0) = true := decide_eq_true (by omega)
      have k0 : (0 : Int) ≤ (k : Int) := by omega
      have k1 : (k : Int) < (u.P.length : Int) := by omega
      have hw : IntKind.i64.wrap ((k : Int) + 1 + 1) = (k : Int) + 1 + 1 := IntWalk.i64_in _ (by omega)
      have hpg := h.dP pg (by rw [hvv]; rfl)
      have D0 := (keepsU w a v X ra wa rv wv vv U rdv 3 (.bool false))
      rw [hk] at e1 e2
      have hgU : ¬ ruO a v X ra wa rv wv vv U rdv pg := fun e => e.elim hpg.2.2 (fun e => e.elim hpg.2.1 (fun e => (h.dR pg e).2.1 (by rw [hvv]; rfl)))
      have d0 := HK1.out.cell d0 hgU; have d1 := HK1.out.cell d1 hgU
      obtain rfl : pv = .slice (some ⟨pg, 0, none⟩) u.P.length pcap := hvv
      injection hpv with hp1 hp2 hp3
      subst hp1 hp3
      clear hA hz d2 hcs hq hke hp2 D0 hgU
      have hPg := Lib.hid hpg
      clear hpg
      have H1 := Lib.hid (show NR ((w.alloc (.cells #[.int .i64 ms, .int .i64 ml, .int .i64 mt, .int .i64 mc, .int .i64 md] 31)).setCell ⟨U, 3, none⟩ (.bool false)) a v M X ra wa rv wv vv t U (.slice (some ⟨pg, 0, none⟩) u.P.length pcap) rdv { P := u.P, i := (k : Int) + 1, busy := false, fin := u.fin, rd := u.rd } from by rw [← hk]; exact H1.out)
      by_cases hkd : kd = 0
      · rw [hD, if_pos hkd, hk]
        have e3 : (kd == 0) = true := by simpa using hkd
        clear hD hkd
        have b3 := H0.out.c 3 (z := .bool u.busy) rfl; have f3 := H0.out.f 3; have hl := H0.out.lt
        go_enter Try.func39, Try.ntmps39
        go_upto_region 2 with fail
        clear b3 f3 hl
        have b1 := H1.out.c 1 (z := .slice (some ⟨pg, 0, none⟩) u.P.length pcap) rfl; have b2 := H1.out.c 2 (z := .int .i64 ((k : Int) + 1)) rfl; have hl := H1.out.lt
        generalize (w.alloc (.cells #[.int .i64 ms, .int .i64 ml, .int .i64 mt, .int .i64 mc, .int .i64 md] 31)).setCell ⟨U, 3, none⟩ (.bool false) = W at *
        go_quiet (fail)
        go_upto_region 4 with fail
        go_quiet (fail)
        go_upto_region 5 with fail
        rename_i nq1 _K1 _K2
        have H1q := Lib.hid (H1.out.no (((Keeps.refl NoS W).drewN nq1).drewN nq))
        have HK1q := Lib.hid ((HK1.out.drewN nq1).drewN nq)
        have d1q := (((Keeps.refl NoS W).drewN nq1).drewN nq).cell d1 (fun f => f)
        clear b1 b2 hl d0 d1 H1 HK1
        generalize (W.drewN nq1).drewN nq = W2 at *
        have HN := Lib.hid (H1q.out.no (Keeps.refl NoS W2).drew)
        have HKd := Lib.hid HK1q.out.drew
        have dd1 := (Keeps.refl NoS W2).drew.cell d1q (fun f => f)
        have hwk : IntKind.i64.wrap (k : Int) = (k : Int) := IntWalk.i64_in _ (by omega)
        obtain ⟨rp, rc, hrs⟩ := HN.out.rsl
        subst hrs
        obtain ⟨i0, hi, hz0, hz1, hz2⟩ := info_parts infoWord
        have d2 : ∀ u ∈ [Value.int .i64 at_, .int .i64 t.value], u.oneCell' = true := by simp [Value.oneCell']
        have b3 : u.rd.length + 1 ≤ maxLen := by unfold maxLen; omega
        have HS := Lib.hid (show ∀ w' S, Keeps S W2.drew w' → ¬ S U → ¬ S pg → (w'.cell? ⟨U, 0, none⟩ = some (.pointer (some ⟨X, 0, none⟩)) ∧ w'.cell? ⟨U, 1, none⟩ = some (.slice (some ⟨pg, 0, none⟩) u.P.length pcap) ∧ w'.cell? ⟨U, 2, none⟩ = some (.int .i64 ((k : Int) + 1)) ∧ w'.cell? ⟨U, 5, none⟩ = some (.slice rp u.rd.length rc) ∧ w'.cell? ⟨pg, k * 3 + 1, none⟩ = some (.int .i64 at_)) from fun w' S kk n1 n2 => by
          have z := HN.out.hd
          exact ⟨by rw [blk_cell (kk.blk z n1)]; rfl, by rw [blk_cell (kk.blk z n1)]; rfl, by rw [blk_cell (kk.blk z n1)]; rfl, by rw [blk_cell (kk.blk z n1)]; rfl, kk.cell dd1 n2⟩)
        have HP := Lib.hid hPg.out.2.1
        have HR := Lib.hid (show ∀ g, (Value.slice rp u.rd.length rc).ownBlock = some g → g ≠ U ∧ g ≠ pg from fun g e => ⟨(HN.out.dR g e).1, fun e2 => (HN.out.dR g e).2.1 (by rw [e2]; rfl)⟩)
        refine wp_region_kept_drew 27 (fun w' => w'.cell? ⟨U, 0, none⟩ = some (.pointer (some ⟨X, 0, none⟩)) ∧ w'.cell? ⟨U, 1, none⟩ = some (.slice (some ⟨pg, 0, none⟩) u.P.length pcap) ∧ w'.cell? ⟨U, 2, none⟩ = some (.int .i64 ((k : Int) + 1)) ∧ w'.cell? ⟨U, 5, none⟩ = some (.slice rp u.rd.length rc) ∧ w'.cell? ⟨pg, k * 3 + 1, none⟩ = some (.int .i64 at_)) 27 (fun _ => True) (by kernel_rfl) ((HS.out _ NoS (Keeps.refl _ _) (fun f => f) (fun f => f))) (trivial) (fun hK => ?_)
        refine wpAnyK_take1 (i := 0) (v := ?_) (by simp only [List.getElem?_toArray, List.getElem?_cons_succ, List.getElem?_cons_zero]; rfl) (by kernel_rfl) (by kernel_rfl) (by kernel_rfl) (by kernel_rfl) (by kernel_rfl) (by kernel_rfl) (by exact fun _ _ _ h => h) (Or.inl ⟨by rfl, ?_⟩) (hK _) ?_
        rotate_left
        · intro w hSw; (try dsimp only at hSw); go_simp; (try with_reducible rfl)
        try simp only [Act.put, List.setIfInBounds_toArray, List.set_cons_zero, List.set_cons_succ, hwk]
        refine wpAnyK_take1 (i := 1) (v := ?_) (by simp only [List.getElem?_toArray, List.getElem?_cons_succ, List.getElem?_cons_zero]; rfl) (by kernel_rfl) (by kernel_rfl) (by kernel_rfl) (by kernel_rfl) (by kernel_rfl) (by kernel_rfl) (by exact fun _ _ _ h => h) (Or.inl ⟨by rfl, ?_⟩) (hK _) ?_
        rotate_left
        · intro w hSw; (try dsimp only at hSw); go_simp; (try with_reducible rfl)
        try simp only [Act.put, List.setIfInBounds_toArray, List.set_cons_zero, List.set_cons_succ, hwk]
        refine wpAnyK_take1 (i := 2) (v := ?_) (by simp only [List.getElem?_toArray, List.getElem?_cons_succ, List.getElem?_cons_zero]; rfl) (by kernel_rfl) (by kernel_rfl) (by kernel_rfl) (by kernel_rfl) (by kernel_rfl) (by kernel_rfl) (by exact fun _ _ _ h => h) (Or.inl ⟨by rfl, ?_⟩) (hK _) ?_
        rotate_left
        · intro w hSw; (try dsimp only at hSw); go_simp; (try with_reducible rfl)
        try simp only [Act.put, List.setIfInBounds_toArray, List.set_cons_zero, List.set_cons_succ, hwk]
        refine wpAnyK_take1 (i := 3) (v := ?_) (by simp only [List.getElem?_toArray, List.getElem?_cons_succ, List.getElem?_cons_zero]; rfl) (by kernel_rfl) (by kernel_rfl) (by kernel_rfl) (by kernel_rfl) (by kernel_rfl) (by kernel_rfl) (by exact fun _ _ _ h => h) (Or.inl ⟨by rfl, ?_⟩) (hK _) ?_
        rotate_left
        · intro w hSw; (try dsimp only at hSw); go_simp; (try with_reducible rfl)
        try simp only [Act.put, List.setIfInBounds_toArray, List.set_cons_zero, List.set_cons_succ, hwk]
        refine wpAnyK_take1 (i := 4) (v := ?_) (by simp only [List.getElem?_toArray, List.getElem?_cons_succ, List.getElem?_cons_zero]; rfl) (by kernel_rfl) (by kernel_rfl) (by kernel_rfl) (by kernel_rfl) (by kernel_rfl) (by kernel_rfl) (by exact fun _ _ _ h => h) (Or.inl ⟨by rfl, ?_⟩) (hK _) ?_
        rotate_left
        · intro w hSw; (try dsimp only at hSw); go_simp; (try with_reducible rfl)
        try simp only [Act.put, List.setIfInBounds_toArray, List.set_cons_zero, List.set_cons_succ, hwk]
        refine wpAnyK_take1 (i := 5) (v := ?_) (by simp only [List.getElem?_toArray, List.getElem?_cons_succ, List.getElem?_cons_zero]; rfl) (by kernel_rfl) (by kernel_rfl) (by kernel_rfl) (by kernel_rfl) (by kernel_rfl) (by kernel_rfl) (by exact fun _ _ _ h => h) (Or.inl ⟨by rfl, ?_⟩) (hK _) ?_
        rotate_left
        · intro w hSw; (try dsimp only at hSw); go_simp; (try with_reducible rfl)
        try simp only [Act.put, List.setIfInBounds_toArray, List.set_cons_zero, List.set_cons_succ, hwk]
        refine wpAnyK_take1 (i := 6) (v := ?_) (by simp only [List.getElem?_toArray, List.getElem?_cons_succ, List.getElem?_cons_zero]; rfl) (by kernel_rfl) (by kernel_rfl) (by kernel_rfl) (by kernel_rfl) (by kernel_rfl) (by kernel_rfl) (by exact fun _ _ _ h => h) (Or.inl ⟨by rfl, ?_⟩) (hK _) ?_
        rotate_left
        · intro w hSw; (try dsimp only at hSw); go_simp; (try with_reducible rfl)
        try simp only [Act.put, List.setIfInBounds_toArray, List.set_cons_zero, List.set_cons_succ, hwk]
        refine wpAnyK_take1 (i := 7) (v := ?_) (by simp only [List.getElem?_toArray, List.getElem?_cons_succ, List.getElem?_cons_zero]; rfl) (by kernel_rfl) (by kernel_rfl) (by kernel_rfl) (by kernel_rfl) (by kernel_rfl) (by kernel_rfl) (by exact fun _ _ _ h => h) (Or.inl ⟨by rfl, ?_⟩) (hK _) ?_
        rotate_left
        · intro w hSw; (try dsimp only at hSw); go_simp; (try with_reducible rfl)
        try simp only [Act.put, List.setIfInBounds_toArray, List.set_cons_zero, List.set_cons_succ, hwk]
        refine wpAnyK_take1 (i := 8) (v := ?_) (by simp only [List.getElem?_toArray, List.getElem?_cons_succ, List.getElem?_cons_zero]; rfl) (by kernel_rfl) (by kernel_rfl) (by kernel_rfl) (by kernel_rfl) (by kernel_rfl) (by kernel_rfl) (by exact fun _ _ _ h => h) (Or.inl ⟨by rfl, ?_⟩) (hK _) ?_
        rotate_left
        · intro w hSw; (try dsimp only at hSw); go_simp; (try with_reducible rfl)
        try simp only [Act.put, List.setIfInBounds_toArray, List.set_cons_zero, List.set_cons_succ, hwk]
        refine wpAnyK_take1 (i := 9) (v := ?_) (by simp only [List.getElem?_toArray, List.getElem?_cons_succ, List.getElem?_cons_zero]; rfl) (by kernel_rfl) (by kernel_rfl) (by kernel_rfl) (by kernel_rfl) (by kernel_rfl) (by kernel_rfl) (by exact fun _ _ _ h => h) (Or.inl ⟨by rfl, ?_⟩) (hK _) ?_
        rotate_left
        · intro w hSw; (try dsimp only at hSw); go_simp; (try with_reducible rfl)
        try simp only [Act.put, List.setIfInBounds_toArray, List.set_cons_zero, List.set_cons_succ, hwk]
        refine wpAnyK_take1 (i := 10) (v := ?_) (by simp only [List.getElem?_toArray, List.getElem?_cons_succ, List.getElem?_cons_zero]; rfl) (by kernel_rfl) (by kernel_rfl) (by kernel_rfl) (by kernel_rfl) (by kernel_rfl) (by kernel_rfl) (by exact fun _ _ _ h => h) (Or.inl ⟨by rfl, ?_⟩) (hK _) ?_
        rotate_left
        · intro w hSw; (try dsimp only at hSw); go_simp; (try with_reducible rfl)
        try simp only [Act.put, List.setIfInBounds_toArray, List.set_cons_zero, List.set_cons_succ, hwk]
        refine wpAnyK_take1 (i := 11) (v := ?_) (by simp only [List.getElem?_toArray, List.getElem?_cons_succ, List.getElem?_cons_zero]; rfl) (by kernel_rfl) (by kernel_rfl) (by kernel_rfl) (by kernel_rfl) (by kernel_rfl) (by kernel_rfl) (by exact fun _ _ _ h => h) (Or.inl ⟨by rfl, ?_⟩) (hK _) ?_
        rotate_left
        · intro w hSw; (try dsimp only at hSw); go_simp; (try with_reducible rfl)
        try simp only [Act.put, List.setIfInBounds_toArray, List.set_cons_zero, List.set_cons_succ, hwk]
        refine wpAnyK_take1 (i := 12) (v := ?_) (by simp only [List.getElem?_toArray, List.getElem?_cons_succ, List.getElem?_cons_zero]; rfl) (by kernel_rfl) (by kernel_rfl) (by kernel_rfl) (by kernel_rfl) (by kernel_rfl) (by kernel_rfl) (by exact fun _ _ _ h => h) (Or.inl ⟨by rfl, ?_⟩) (hK _) ?_
        rotate_left
        · intro w hSw; (try dsimp only at hSw); go_simp; (try with_reducible rfl)
        try simp only [Act.put, List.setIfInBounds_toArray, List.set_cons_zero, List.set_cons_succ, hwk]
        refine wpAnyK_take1 (i := 13) (v := ?_) (by simp only [List.getElem?_toArray, List.getElem?_cons_succ, List.getElem?_cons_zero]; rfl) (by kernel_rfl) (by kernel_rfl) (by kernel_rfl) (by kernel_rfl) (by kernel_rfl) (by kernel_rfl) (by exact fun _ _ _ h => h) (Or.inl ⟨by rfl, ?_⟩) (hK _) ?_
        rotate_left
        · intro w hSw; (try dsimp only at hSw); go_simp; (try with_reducible rfl)
        try simp only [Act.put, List.setIfInBounds_toArray, List.set_cons_zero, List.set_cons_succ, hwk]
        refine wpAnyK_take1 (i := 14) (v := ?_) (by simp only [List.getElem?_toArray, List.getElem?_cons_succ, List.getElem?_cons_zero]; rfl) (by kernel_rfl) (by kernel_rfl) (by kernel_rfl) (by kernel_rfl) (by kernel_rfl) (by kernel_rfl) (by exact fun _ _ _ h => h) (Or.inl ⟨by rfl, ?_⟩) (hK _) ?_
        rotate_left
        · intro w hSw; (try dsimp only at hSw); go_simp; (try with_reducible rfl)
        try simp only [Act.put, List.setIfInBounds_toArray, List.set_cons_zero, List.set_cons_succ, hwk]
        refine wpAnyK_take1 (i := 15) (v := ?_) (by simp only [List.getElem?_toArray, List.getElem?_cons_succ, List.getElem?_cons_zero]; rfl) (by kernel_rfl) (by kernel_rfl) (by kernel_rfl) (by kernel_rfl) (by kernel_rfl) (by kernel_rfl) (by exact fun _ _ _ h => h) (Or.inl ⟨by rfl, ?_⟩) (hK _) ?_
        rotate_left
        · intro w hSw; (try dsimp only at hSw); go_simp; (try with_reducible rfl)
        try simp only [Act.put, List.setIfInBounds_toArray, List.set_cons_zero, List.set_cons_succ, hwk]
        refine wpAnyK_take1 (i := 16) (v := ?_) (by simp only [List.getElem?_toArray, List.getElem?_cons_succ, List.getElem?_cons_zero]; rfl) (by kernel_rfl) (by kernel_rfl) (by kernel_rfl) (by kernel_rfl) (by kernel_rfl) (by kernel_rfl) (by exact fun _ _ _ h => h) (Or.inl ⟨by rfl, ?_⟩) (hK _) ?_
        rotate_left
        · intro w hSw; (try dsimp only at hSw); go_simp; (try with_reducible rfl)
        try simp only [Act.put, List.setIfInBounds_toArray, List.set_cons_zero, List.set_cons_succ, hwk]
        refine wpAnyK_take1 (i := 17) (v := ?_) (by simp only [List.getElem?_toArray, List.getElem?_cons_succ, List.getElem?_cons_zero]; rfl) (by kernel_rfl) (by kernel_rfl) (by kernel_rfl) (by kernel_rfl) (by kernel_rfl) (by kernel_rfl) (by exact fun _ _ _ h => h) (Or.inl ⟨by rfl, ?_⟩) (hK _) ?_
        rotate_left
        · intro w hSw; (try dsimp only at hSw); go_simp; (try with_reducible rfl)
        try simp only [Act.put, List.setIfInBounds_toArray, List.set_cons_zero, List.set_cons_succ, hwk]
        refine wpAnyK_take1 (i := 18) (v := ?_) (by simp only [List.getElem?_toArray, List.getElem?_cons_succ, List.getElem?_cons_zero]; rfl) (by kernel_rfl) (by kernel_rfl) (by kernel_rfl) (by kernel_rfl) (by kernel_rfl) (by kernel_rfl) (by exact fun _ _ _ h => h) (Or.inl ⟨by rfl, ?_⟩) (hK _) ?_
        rotate_left
        · intro w hSw; (try dsimp only at hSw); go_simp; (try with_reducible rfl)
        try simp only [Act.put, List.setIfInBounds_toArray, List.set_cons_zero, List.set_cons_succ, hwk]
        refine wpAnyK_take1 (i := 19) (v := ?_) (by simp only [List.getElem?_toArray, List.getElem?_cons_succ, List.getElem?_cons_zero]; rfl) (by kernel_rfl) (by kernel_rfl) (by kernel_rfl) (by kernel_rfl) (by kernel_rfl) (by kernel_rfl) (by exact fun _ _ _ h => h) (Or.inl ⟨by rfl, ?_⟩) (hK _) ?_
        rotate_left
        · intro w hSw; (try dsimp only at hSw); go_simp; (try with_reducible rfl)
        try simp only [Act.put, List.setIfInBounds_toArray, List.set_cons_zero, List.set_cons_succ, hwk]
        refine wpAnyK_take1 (i := 20) (v := ?_) (by simp only [List.getElem?_toArray, List.getElem?_cons_succ, List.getElem?_cons_zero]; rfl) (by kernel_rfl) (by kernel_rfl) (by kernel_rfl) (by kernel_rfl) (by kernel_rfl) (by kernel_rfl) (by exact fun _ _ _ h => h) (Or.inl ⟨by rfl, ?_⟩) (hK _) ?_
        rotate_left
        · intro w hSw; (try dsimp only at hSw); go_simp; (try with_reducible rfl)
        try simp only [Act.put, List.setIfInBounds_toArray, List.set_cons_zero, List.set_cons_succ, hwk]
        refine wpAnyK_one (i := 21) (by kernel_rfl) (by simp only [List.getElem?_toArray, List.getElem?_cons_succ, List.getElem?_cons_zero]; rfl) (fun kC hkC => ?_)
        go_simp
        refine (xValue_any HN.out.nx).mono ?_; rintro e w2 ⟨rfl, hw⟩; subst hw
        (try go_wp2_with fail)
        refine hkC.out _ _ ((HS.out _ NoS (Keeps.refl _ _) (fun f => f) (fun f => f))) (trivial) (fun hK => ?_)
        clear hkC kC
        try simp only [Act.put, List.setIfInBounds_toArray, List.set_cons_zero, List.set_cons_succ, hwk]
        refine wpAnyK_take1 (i := 22) (v := ?_) (by simp only [List.getElem?_toArray, List.getElem?_cons_succ, List.getElem?_cons_zero]; rfl) (by kernel_rfl) (by kernel_rfl) (by kernel_rfl) (by kernel_rfl) (by kernel_rfl) (by kernel_rfl) (by exact fun _ _ _ h => h) (Or.inl ⟨by rfl, ?_⟩) (hK _) ?_
        rotate_left
        · intro w hSw; (try dsimp only at hSw); go_simp; (try with_reducible rfl)
        try simp only [Act.put, List.setIfInBounds_toArray, List.set_cons_zero, List.set_cons_succ, hwk]
        refine wpAnyK_one (i := 23) (by kernel_rfl) (by simp only [List.getElem?_toArray, List.getElem?_cons_succ, List.getElem?_cons_zero]; rfl) (fun kC hkC => ?_)
        go_simp
        refine hkC.out _ _ ((HS.out _ NoS ((Keeps.refl _ _).alloc _) (fun f => f) (fun f => f))) (trivial) (fun hK => ?_)
        clear hkC kC
        try simp only [Act.put, List.setIfInBounds_toArray, List.set_cons_zero, List.set_cons_succ, hwk]
        refine wpAnyK_one (i := 24) (by kernel_rfl) (by simp only [List.getElem?_toArray, List.getElem?_cons_succ, List.getElem?_cons_zero]; rfl) (fun kC hkC => ?_)
        refine step_append_fp _ rfl (.tmp 44) (.tmp 63) 43 (by rfl) 54 i0 (.agg #[.int .i64 0, .int .i64 0]) 2 16 Try.underlying43 hi hz0 hz1 hz2 rfl (by decide) (.slice rp u.rd.length rc) u.rd.length (flat u.rd) (by rfl) (HN.out.rd.alloc _) ⟨W2.drew.heap.size, 0, none⟩ 1 1 [.int .i64 at_, .int .i64 t.value] (by rfl) rfl (cells_new _ _ _) d2 b3 (by omega) ?_; intro v' w3 hown hgr hob; have hput := HN.out.rput hown hgr hob; have k1 : Keeps (fun g => (Value.slice rp u.rd.length rc).ownBlock = some g) W2.drew w3 := ((Keeps.refl _ _).alloc _).grown hgr (fun k hk _ => hk); have e5 : w3.cell? ⟨U, 5, none⟩ = some (.slice rp u.rd.length rc) := (by rw [blk_cell hput.2]; rfl); have e6 := blk_free hput.2 5; have e7 := blk_lt hput.2; obtain ⟨p', c', rfl⟩ := owns_slice hown; clear hown hgr hob d2 b3 hi hz0 hz1 hz2
        refine hkC.out _ _ ((HS.out _ _ k1 (fun e => (HR.out _ e).1 rfl) (fun e => (HR.out _ e).2 rfl))) (trivial) (fun hK => ?_)
        clear hkC kC
        try simp only [Act.put, List.setIfInBounds_toArray, List.set_cons_zero, List.set_cons_succ, hwk]
        refine wpAnyK_takeT (i := 25) (v := ?_) (by simp only [List.getElem?_toArray, List.getElem?_cons_succ, List.getElem?_cons_zero]; rfl) (by kernel_rfl) (by kernel_rfl) (by kernel_rfl) (by kernel_rfl) (by kernel_rfl) (by exact fun _ _ _ h => h) (Or.inl ⟨by rfl, ?_⟩) (hK _) ?_
        rotate_left
        · intro w hSw; (try dsimp only at hSw); go_simp; (try with_reducible rfl)
        try simp only [Act.put, List.setIfInBounds_toArray, List.set_cons_zero, List.set_cons_succ, hwk]
        refine wpAnyK_take1 (i := 26) (v := ?_) (by simp only [List.getElem?_toArray, List.getElem?_cons_succ, List.getElem?_cons_zero]; rfl) (by kernel_rfl) (by kernel_rfl) (by kernel_rfl) (by kernel_rfl) (by kernel_rfl) (by kernel_rfl) (by exact fun _ _ _ h => h) (Or.inl ⟨by rfl, ?_⟩) (hK _) ?_
        rotate_left
        · intro w hSw; (try dsimp only at hSw); go_simp; (try with_reducible rfl)
        try simp only [Act.put, List.setIfInBounds_toArray, List.set_cons_zero, List.set_cons_succ, hwk]
        refine wpAnyK_last (i := 27) (by kernel_rfl) (by simp only [List.getElem?_toArray, List.getElem?_cons_succ, List.getElem?_cons_zero]; rfl) (by kernel_rfl) (by kernel_rfl) (fun kC hkC => ?_)
        go_simp
        refine hkC.out _ _ ?_
        clear hkC kC
        try simp only [Act.put, List.setIfInBounds_toArray, List.set_cons_zero, List.set_cons_succ, hwk]
        refine wpAnyK_done (by kernel_rfl) ?_ _
        obtain ⟨rv1, wv1, vv1, rdv1, hN1, hk1, hg1⟩ := hput.1
        clear hput e5 e6 e7 k1 HS
        have b2 := hN1.c 2 (z := .int .i64 ((k : Int) + 1)) rfl; have f2 := hN1.f 2; have hl := hN1.lt
        have H2 := Lib.hid (hN1.set 2 (.int .i64 ((k : Int) + 1 + 1)) (u' := { P := u.P, i := (k : Int) + 1 + 1, busy := false, fin := u.fin, rd := u.rd ++ [(at_, t.value)] }) rfl rfl rfl)
        clear hN1
        go_wp2_with fail
        (try rw [hw])
        (first | go_end0 | ((try simp only [Exit.inBlock, Exit.then]); refine bodyPost_ret (results_none rfl _ _ _) rfl ?_))
        exact ⟨rfl, NRP.then HKd.out (fun g e => .inl e) (NRP.then hk1 hg1 (H2.out.kz (keepsU _ a v X ra wa rv1 wv1 vv1 U rdv1 2 (.int .i64 ((k : Int) + 1 + 1)))))⟩
      · rw [hD, if_neg hkd, hk]
        have e3 : (kd == 0) = false := by simpa using hkd
        clear hD hkd
        have b3 := H0.out.c 3 (z := .bool u.busy) rfl; have f3 := H0.out.f 3; have hl := H0.out.lt
        go_enter Try.func39, Try.ntmps39
        go_upto_region 2 with fail
        clear b3 f3 hl
        have b1 := H1.out.c 1 (z := .slice (some ⟨pg, 0, none⟩) u.P.length pcap) rfl; have b2 := H1.out.c 2 (z := .int .i64 ((k : Int) + 1)) rfl; have hl := H1.out.lt
        have f2 := H1.out.f 2
        have H2 := Lib.hid (fun n => (H1.out.no ((Keeps.refl NoS _).drewN n)).set 2 (.int .i64 ((k : Int) + 1 + 1)) (u' := { P := u.P, i := (k : Int) + 1 + 1, busy := false, fin := u.fin, rd := u.rd }) rfl rfl rfl)
        generalize (w.alloc (.cells #[.int .i64 ms, .int .i64 ml, .int .i64 mt, .int .i64 mc, .int .i64 md] 31)).setCell ⟨U, 3, none⟩ (.bool false) = W at *
        go_quiet (fail)
        go_upto_region 4 with fail
        go_quiet (fail)
        go_wp2_with fail
        (try rw [hw])
        (first | go_end0 | ((try simp only [Exit.inBlock, Exit.then]); refine bodyPost_ret (results_none rfl _ _ _) rfl ?_))
        exact ⟨rfl, (H2.out _).kz ((HK1.out.drewN _).trans (keepsU _ a v X ra wa rv wv vv U rdv 2 (.int .i64 ((k : Int) + 1 + 1))))⟩
end Go.Proofs.Ytfmamedkiaimpaa
