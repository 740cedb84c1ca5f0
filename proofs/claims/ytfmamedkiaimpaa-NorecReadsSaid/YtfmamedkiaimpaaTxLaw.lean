/- What the laws of one attempt have at hand: a run of their own, its plan's rows. -/
import Derived.Test.YtfmamedkiaimpaaTxR
import Derived.Test.YtfmamedkiaimpaaIn2
namespace Go.Proofs.Ytfmamedkiaimpaa
open Go.RowKit
def flat3 (l : List OpZ) : List Value := l.flatMap fun o => [.int .i64 o.1, .int .i64 o.2.1, .int .i64 o.2.2]
theorem flat3_snoc (l : List OpZ) (o : OpZ) : flat3 (l ++ [o]) = flat3 l ++ [.int .i64 o.1, .int .i64 o.2.1, .int .i64 o.2.2] := by simp [flat3]
theorem flat3_at : ∀ (l : List OpZ) (k : Nat), k < l.length → (flat3 l)[k * 3]? = some (.int .i64 (l.getD k op0).1) ∧ (flat3 l)[k * 3 + 1]? = some (.int .i64 (l.getD k op0).2.1) ∧ (flat3 l)[k * 3 + 2]? = some (.int .i64 (l.getD k op0).2.2)
  | [], k, h => absurd h (by simp)
  | o :: l, 0, _ => ⟨rfl, rfl, rfl⟩
  | o :: l, k + 1, h => by
    have e : flat3 (o :: l) = [.int .i64 o.1, .int .i64 o.2.1, .int .i64 o.2.2] ++ flat3 l := rfl
    have ih := flat3_at l k (by simpa using h)
    rw [e]
    refine ⟨?_, ?_, ?_⟩
    · rw [show (k + 1) * 3 = k * 3 + 3 by omega, List.getElem?_append_right (by simp)]; simpa using ih.1
    · rw [show (k + 1) * 3 + 1 = k * 3 + 1 + 3 by omega, List.getElem?_append_right (by simp)]; simpa using ih.2.1
    · rw [show (k + 1) * 3 + 2 = k * 3 + 2 + 3 by omega, List.getElem?_append_right (by simp)]; simpa using ih.2.2
abbrev Row3 (w : World) (v : Value) (l : List OpZ) : Prop := w.ownsRow 0 39 3 v l.length (flat3 l)
theorem Row3.plan {w : World} {v : Value} {l : List OpZ} (h : Row3 w v l) : PlanAt w v l := by
  rcases h.2 with ⟨hv, hn⟩ | ⟨g, cap, cur, hv, hb, hg, hn, hm, hs, ht⟩
  · exact .inl ⟨hv, List.eq_nil_of_length_eq_zero hn⟩
  · refine .inr ⟨g, cap, hv, blk_lt hg, fun k hk => ?_⟩
    have hf := flat3_at l k hk
    rw [blk_cell hg, blk_cell hg, blk_cell hg]
    rw [← ht] at hf
    refine ⟨?_, ?_, ?_⟩
    · have := hf.1; rw [List.getElem?_take, if_pos (by omega)] at this; simpa using this
    · have := hf.2.1; rw [List.getElem?_take, if_pos (by omega)] at this; simpa using this
    · have := hf.2.2; rw [List.getElem?_take, if_pos (by omega)] at this; simpa using this
theorem infoOp : (Try.prog.info? 39).map (fun i => (i.zero, i.size, i.bytes)) = some (some (.agg #[.int .i64 0, .int .i64 0, .int .i64 0]), 3, 24) := by kernel_rfl
/-- a plan from what came in -/
def kdZ (z : Int) : Int := IntKind.i64.wrap ((IntKind.u64.wrap z).tmod 2)
def atZ (z : Int) : Int := IntKind.i64.wrap ((IntKind.u64.wrap z).tmod 4)
theorem atZ_is (z : Int) : atZ z = (IntKind.u64.wrap z).tmod 4 := by
  obtain ⟨h1, h2⟩ := u64_tmod_bd z 4 (by omega)
  exact IntWalk.i64_in _ (by omega)
def planOf (L : NRows) : Nat → List OpZ
  | 0 => []
  | n + 1 => planOf L n ++ [(kdZ (L.F n 0), atZ (L.F n 1), L.F n 2)]
theorem planOf_len (L : NRows) : ∀ n, (planOf L n).length = n
  | 0 => rfl
  | n + 1 => by simp [planOf, planOf_len L n]
theorem planOf_at (L : NRows) : ∀ (n k : Nat), k < n → (planOf L n).getD k op0 = (kdZ (L.F k 0), atZ (L.F k 1), L.F k 2)
  | 0, _, h => absurd h (by omega)
  | n + 1, k, h => by
    rw [planOf, List.getD_eq_getElem?_getD]
    by_cases e : k < n
    · rw [List.getElem?_append_left (by rw [planOf_len]; exact e), ← List.getD_eq_getElem?_getD]
      exact planOf_at L n k e
    · obtain rfl : k = n := by omega
      rw [List.getElem?_append_right (by rw [planOf_len]; omega), planOf_len]
      simp
theorem planOf_ok (L : NRows) (h8 : L.len ≤ 8) (hwf : ∀ k, k < L.len → (Lit.int .i64 (L.F k 2)).wf = true) : PlOk (planOf L L.len) := by
  refine ⟨by rw [planOf_len]; exact h8, fun k hk => ?_, fun k hk => ?_⟩
  · rw [planOf_len] at hk
    rw [planOf_at L _ k hk]
    dsimp only
    rw [atZ_is]
    obtain ⟨h1, h2⟩ := u64_tmod_bd (L.F k 1) 4 (by omega)
    exact ⟨h1, h2⟩
  · rw [planOf_len] at hk
    rw [planOf_at L _ k hk]
    exact hwf k hk
/-- a run that is the law's own -/
def LR (w wr : World) (a : Nat) (v : Value) (X ra wa U : Nat) (pv : Value) (z : St3) : Prop :=
  ∃ rv wv vv rdv, NR wr a v z.1 X ra wa rv wv vv z.2.1 U pv rdv z.2.2 ∧ Keeps NoS w wr ∧ ∀ g, ruO a v X ra wa rv wv vv U rdv g → w.heap.size ≤ g
section
variable {w w1 w2 wr : World} {a X ra wa U : Nat} {v rv wv vv pv rdv : Value} {M M' : MemS} {t t' : TxS} {u u' : RunM}
theorem LR.after (hK : Keeps NoS w wr) (hG : ∀ g, ruO a v X ra wa rv wv vv U rdv g → w.heap.size ≤ g) (h : NRP wr w2 a v M' X ra wa rv wv vv t' U pv rdv u') : LR w w2 a v X ra wa U pv (M', t', u') := by
  obtain ⟨rv', wv', vv', rdv', h1, h2, h3⟩ := h
  have hs := hK.size
  exact ⟨rv', wv', vv', rdv', h1, hK.trans' h2 (fun i hi e => absurd (hG i e) (by omega)), fun g e => (h3 g e).elim (hG g) (fun e => by omega)⟩
/-- the memory alone goes on -/
theorem NR.mem (h : NR w a v M X ra wa rv wv vv t U pv rdv u) (hm : MemAt w2 a v M') (k : Keeps (own2m a v) w w2) : NRP w w2 a v M' X ra wa rv wv vv t U pv rdv u :=
  h.tx ⟨rv, wv, vv, h.nx.mem hm k, k.mono fun g e => .inr e, fun _ e => .inl e⟩
theorem LR.made {P : List OpZ} (hm : MemAt w1 a v M) (hk : Keeps NoS w w1) (ha : w.heap.size ≤ a) (hv : ∀ g, v.ownBlock = some g → w.heap.size ≤ g) (hn : TxNew w1 w2 X ra wa t) (hp : PlanAt w1 pv P) (hpl : ∀ g, pv.ownBlock = some g → g < w1.heap.size ∧ ¬ own2m a v g) :
    LR w (w2.alloc (.cells (ruC X pv (.slice none 0 0) (run0 P)) 45)) a v X ra wa w2.heap.size pv (M, t, run0 P) := by
  have hx := NX.made hm hn
  have kk := (Keeps.refl NoS w2).alloc (.cells (ruC X pv (.slice none 0 0) (run0 P)) 45)
  have hX := hn.hX; have hr := hn.hr; have hw := hn.hw; have hs := hk.size; have hs2 := hn.kp.size
  have hb : ∀ g, own2m a v g → g < w1.heap.size := fun g e => by
    rcases e with e | e
    · rw [e]; exact blk_lt hm.hd
    · exact hm.own_lt e
  have hb2 : ∀ g, txO X ra wa (.slice none 0 0) (.slice none 0 0) (.slice none 0 0) g → w1.heap.size ≤ g ∧ g < w2.heap.size := fun g e => by
    rcases e with z | z | z | z | z | z
    · rw [z]; exact ⟨hX, hx.tx.lt⟩
    · rw [z]; exact ⟨hr, hx.tx.ralt⟩
    · rw [z]; exact ⟨hw, hx.tx.walt⟩
    · simp [Value.ownBlock] at z
    · simp [Value.ownBlock] at z
    · simp [Value.ownBlock] at z
  refine ⟨_, _, _, .slice none 0 0, ⟨hx.no kk, heap_alloc_new _ _, (hp.keep hn.kp (fun _ _ f => f)).keep kk (fun _ _ f => f), World.ownsRow_nil _ _ _ _, ?_, fun g e => ⟨?_, ?_, ?_⟩, fun g e => by simp [Value.ownBlock] at e⟩, (hk.trans hn.kp).trans kk, fun g e => ?_⟩
  · rintro (e | e)
    · have := hb2 _ e; omega
    · have := hb _ e; omega
  · have := (hpl g e).1; have := kk.size; omega
  · have := (hpl g e).1; omega
  · rintro (e2 | e2)
    · have := hb2 _ e2; have := (hpl g e).1; omega
    · exact (hpl g e).2 e2
  · rcases e with (e | e) | e | e
    · have := hb2 _ e; omega
    · rcases e with e | e
      · omega
      · exact hv g e
    · omega
    · simp [Value.ownBlock] at e
end
end Go.Proofs.Ytfmamedkiaimpaa
