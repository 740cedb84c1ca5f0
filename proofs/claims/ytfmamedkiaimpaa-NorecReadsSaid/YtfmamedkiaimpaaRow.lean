/- A row of numbers behind a slice of its own: what an append makes of it, in a plain region and at a step of a drawn one. -/
import Derived.Test.YtfmamedkiaimpaaMemAll
import Derived.Test.YtfmamedkiaimpaaAppend
import Derived.RegionTactic
namespace Go.Proofs.Ytfmamedkiaimpaa
open Go.RowKit
/-- what is told of a type of numbers -/
structure IntT (T S : TypeId) (i : TypeInfo) : Prop where
  fu : Try.prog.underlying S = some (.slice T)
  fi : Try.prog.info? T = some i
  fz : i.zero = some (.int .i64 0)
  fs : i.size = 1
  fb : i.bytes = 8
structure RowI (T : TypeId) (w : World) (lo : Nat) (v : Value) (l : List Int) : Prop where
  own : w.ownsRow 0 T 1 v l.length (intsV l)
  lo : ∀ g, v.ownBlock = some g → lo ≤ g
theorem RowI.nil (T : TypeId) (w : World) (lo : Nat) : RowI T w lo (.slice none 0 0) [] := ⟨World.ownsRow_nil _ _ _ _, by simp [Value.ownBlock]⟩
theorem RowI.keep {T : TypeId} {S : Nat → Prop} {w w' : World} {lo : Nat} {v : Value} {l : List Int} (h : RowI T w lo v l) (k : Keeps S w w') (hS : ∀ g, v.ownBlock = some g → ¬ S g) : RowI T w' lo v l := ⟨k.owns h.own hS, h.lo⟩
theorem RowI.no {T : TypeId} {w w' : World} {lo : Nat} {v : Value} {l : List Int} (h : RowI T w lo v l) (k : Keeps NoS w w') : RowI T w' lo v l := h.keep k (fun _ _ f => f)
theorem RowI.below {T : TypeId} {S : Nat → Prop} {w w' : World} {lo : Nat} {v : Value} {l : List Int} (h : RowI T w lo v l) (k : Keeps S w w') (hS : ∀ g, S g → g < lo) : RowI T w' lo v l := h.keep k (fun g hg hs => by have := h.lo g hg; have := hS g hs; omega)
theorem RowI.grown {T : TypeId} {w w' : World} {lo : Nat} {v u : Value} {l : List Int} (h : RowI T w lo v l) (k : w.grownBy w' u.ownBlock) (hu : ∀ g, v.ownBlock = some g → u.ownBlock ≠ some g) : RowI T w' lo v l := by
  refine h.keep (S := fun g => u.ownBlock = some g) ?_ (fun g hg => hu g hg)
  exact (Keeps.refl _ w).grown k (fun g hg _ => hg)
theorem RowI.lt {T : TypeId} {w : World} {lo : Nat} {v : Value} {l : List Int} (h : RowI T w lo v l) {g : Nat} (hg : v.ownBlock = some g) : g < w.heap.size := (h.own.lt g hg).2
theorem RowI.slice {T : TypeId} {w : World} {lo : Nat} {v : Value} {l : List Int} (h : RowI T w lo v l) : ∃ p c, v = .slice p l.length c := owns_slice h.own
theorem RowI.form {T : TypeId} {w : World} {lo : Nat} {v : Value} {l : List Int} (h : RowI T w lo v l) (hn : 0 < l.length) : ∃ g c, v = .slice (some ⟨g, 0, none⟩) l.length c ∧ lo ≤ g ∧ g < w.heap.size ∧ l.length ≤ c ∧ c ≤ maxLen ∧
    (∀ k, k < l.length → w.cell? ⟨g, k, none⟩ = some (.int .i64 (l.getD k 0))) := by
  rcases h.own.2 with ⟨_, hz⟩ | ⟨g, cap, cur, hv, hb, hg, hc, hm, _⟩
  · omega
  · subst hv
    refine ⟨g, cap, rfl, h.lo g rfl, h.lt rfl, hc, hm, fun k hk => ?_⟩
    have := h.own.cells (g := g) rfl k _ (intsV_get l k hk)
    rwa [add_zero_off] at this
/-- at a step of a region that draws its order -/
theorem step_append_fp {P : Program} (w : World) {ops : Array Oper} {o : Oper} {a : Act} {K : Act → World → Prop} {Q : Exit → Act → World → Prop} {E : Prop} (hgd : Region.wanted o (yielded ops a.tmps) = true) (s x : Operand) (t : TypeId)
    (ho : o.op = .call { callee := .builtin .append, args := #[s, x], argTypes := #[t, t] })
    (e : TypeId) (i : TypeInfo) (z : Value) (size bytes : Nat) (ht : P.underlying t = some (.slice e)) (hi : P.info? e = some i) (hz : i.zero = some z)
    (hsize : i.size = size) (hby : i.bytes = bytes) (hzs : z.cells.size = size) (hsz : 0 < size)
    (v : Value) (n : Nat) (xs : List Value) (hs : a.eval s = v) (hown : w.ownsRow 0 e size v n xs)
    (ad : Addr) (m c : Nat) (news : List Value) (hx : a.eval x = .slice (some ad) m c) (hl : news.length = m * size) (hnews : ∀ j u, news[j]? = some u → w.cell? (ad.add j) = some u) (h1 : ∀ u ∈ news, u.oneCell' = true)
    (h63 : n + m ≤ maxLen) (hbytes : (n + m) * bytes ≤ 140737488355328)
    (h : ∀ v' w', w'.ownsRow 0 e size v' (n + m) (xs ++ news) → w.grownBy w' v.ownBlock → (∀ g, v'.ownBlock = some g → v.ownBlock = some g ∨ g = w.heap.size) → K (a.put o.dst v') w') :
    if Region.wanted o (yielded ops a.tmps) = true then Oper.wp P o a w K Q else E := by
  rw [if_pos hgd]
  obtain ⟨v', w', hr, h2, h3, h4⟩ := run_append_fp (P := P) w t o.type e i z size bytes ht hi hz hsize hby hzs hsz v n xs hown ad m c news hl hnews h1 h63 hbytes
  unfold Oper.wp execOp
  simp only [ho, resolve, invoke, builtin, Sem.run_bind, Sem.run_pure, Result.andThen_ok, List.map_toArray, List.map_cons, List.map_nil, hs, hx, hr]
  exact h _ _ h2 h3 h4
theorem RowI.made {T : TypeId} {w w' : World} {lo : Nat} {v v' : Value} {l news : List Int} (h : RowI T w lo v l) (hlo : lo ≤ w.heap.size) (ho : w'.ownsRow 0 T 1 v' (l.length + news.length) (intsV l ++ intsV news)) (hb : ∀ g, v'.ownBlock = some g → v.ownBlock = some g ∨ g = w.heap.size) : RowI T w' lo v' (l ++ news) := by
  refine ⟨?_, fun g hg => ?_⟩
  · have e1 : intsV (l ++ news) = intsV l ++ intsV news := by simp [intsV]
    rw [List.length_append, e1]; exact ho
  · rcases hb g hg with h1 | h1
    · exact h.lo g h1
    · omega
/-- numbers put behind a row (none, too), at a step of a drawn region -/
theorem step_row {T S : TypeId} {i : TypeInfo} (hT : IntT T S i) (w : World) {ops : Array Oper} {o : Oper} {a : Act} {K : Act → World → Prop} {Q : Exit → Act → World → Prop} {E : Prop} (hgd : Region.wanted o (yielded ops a.tmps) = true) (s x : Operand)
    (ho : o.op = .call { callee := .builtin .append, args := #[s, x], argTypes := #[S, S] })
    (lo : Nat) (v : Value) (l : List Int) (hs : a.eval s = v) (hr : RowI T w lo v l) (ad : Addr) (m c : Nat) (news : List Int) (hx : a.eval x = .slice (some ad) m c) (hl : news.length = m)
    (hnews : ∀ j, j < m → w.cell? (ad.add j) = some (.int .i64 (news.getD j 0))) (hlen : l.length + m ≤ 100000) (hlo : lo ≤ w.heap.size)
    (h : ∀ v' w', RowI T w' lo v' (l ++ news) → w.grownBy w' v.ownBlock → (∀ g, v'.ownBlock = some g → v.ownBlock = some g ∨ g = w.heap.size) → K (a.put o.dst v') w') :
    if Region.wanted o (yielded ops a.tmps) = true then Oper.wp Try.prog o a w K Q else E := by
  subst hl
  have hmax : (100000 : Nat) ≤ maxLen := by unfold maxLen; omega
  refine step_append_fp w hgd s x S ho T i (.int .i64 0) 1 8 hT.fu hT.fi hT.fz hT.fs hT.fb rfl (by decide) v l.length (intsV l) hs hr.own ad news.length c (intsV news) hx (by rw [intsV_len]; omega) ?_ (oneCells_ints news) (by omega) (by omega) ?_
  · intro j u hu
    have hj : j < news.length := by rw [← intsV_len]; exact (List.getElem?_eq_some_iff.1 hu).1
    rw [intsV_get news j hj] at hu
    rw [hnews j hj]; exact hu
  · intro v' w' h2 h3 h4
    exact h v' w' (hr.made hlo h2 h4) h3 h4
/-- one number put behind a row, in a plain region -/
theorem wpList_row1 {T S : TypeId} {i : TypeInfo} (hT : IntT T S i) (w : World) {ops : Array Oper} {rest : List Oper} {o : Oper} {a : Act} {Q : Exit → Act → World → Prop} (hgd : o.guard = none) (s x : Operand)
    (ho : o.op = .call { callee := .builtin .append, args := #[s, x], argTypes := #[S, S] })
    (lo : Nat) (v : Value) (l : List Int) (hs : a.eval s = v) (hr : RowI T w lo v l) (g c : Nat) (z : Int) (hx : a.eval x = .slice (some ⟨g, 0, none⟩) 1 c)
    (hz : w.cell? ⟨g, 0, none⟩ = some (.int .i64 z)) (hlen : l.length ≤ 10000) (hlo : lo ≤ w.heap.size)
    (h : ∀ v' w', RowI T w' lo v' (l ++ [z]) → w.grownBy w' v.ownBlock → (∀ g, v'.ownBlock = some g → v.ownBlock = some g ∨ g = w.heap.size) → wpList Try.prog ops Q rest (a.put o.dst v') w') :
    wpList Try.prog ops Q (o :: rest) a w := by
  have hmax : (100000 : Nat) ≤ maxLen := by unfold maxLen; omega
  refine wpList_append_fp w hgd s x S ho T i (.int .i64 0) 1 8 hT.fu hT.fi hT.fz hT.fs hT.fb rfl (by decide) v l.length (intsV l) hs hr.own ⟨g, 0, none⟩ 1 c (intsV [z]) hx rfl ?_ (oneCells_ints [z]) (by omega) (by omega) ?_
  · intro j u hu
    have hj : j < 1 := by have := (List.getElem?_eq_some_iff.1 hu).1; simpa [intsV] using this
    obtain rfl : j = 0 := by omega
    have hu' : Value.int .i64 z = u := by simpa [intsV] using hu
    rw [add_zero_off, hz, hu']
  · intro v' w' h2 h3 h4
    exact h v' w' (hr.made (news := [z]) hlo h2 h4) h3 h4
end Go.Proofs.Ytfmamedkiaimpaa
