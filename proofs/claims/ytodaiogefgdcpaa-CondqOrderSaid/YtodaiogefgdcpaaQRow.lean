/- A queue in a slice: put behind by append, taken from the front by s[1:]: the slice may begin in the midst of its block. -/
import Derived.Test.YtodaiogefgdcpaaRow
import Derived.ArgAppend
namespace Go.Proofs.Ytodaiogefgdcpaa
open Go.RowKit
structure QRow (T : TypeId) (w : World) (lo : Nat) (v : Value) (l : List Int) : Prop where
  q : (v = .slice none 0 0 ∧ l = []) ∨ ∃ g off cap, v = .slice (some ⟨g, off, none⟩) l.length cap ∧ lo ≤ g ∧ l.length ≤ cap ∧ cap ≤ maxLen ∧
    ∃ (cur : Array Value) (U : TypeId), w.heap[g]? = some (.cells cur U (0, 0)) ∧ off + cap ≤ cur.size ∧ ∀ k, k < l.length → cur[off + k]? = some (.int .i64 (l.getD k 0))
theorem QRow.nil (T : TypeId) (w : World) (lo : Nat) : QRow T w lo (.slice none 0 0) [] := ⟨.inl ⟨rfl, rfl⟩⟩
theorem QRow.keep {T : TypeId} {S : Nat → Prop} {w w' : World} {lo : Nat} {v : Value} {l : List Int} (h : QRow T w lo v l) (k : Keeps S w w') (hS : ∀ g, v.ownBlock = some g → ¬ S g) : QRow T w' lo v l := by
  rcases h.q with ⟨rfl, rfl⟩ | ⟨g, off, cap, rfl, h1, h2, h3, cur, U, h4, h5, h6⟩
  · exact ⟨.inl ⟨rfl, rfl⟩⟩
  · exact ⟨.inr ⟨g, off, cap, rfl, h1, h2, h3, cur, U, k.blk h4 (hS g rfl), h5, h6⟩⟩
theorem QRow.no {T : TypeId} {w w' : World} {lo : Nat} {v : Value} {l : List Int} (h : QRow T w lo v l) (k : Keeps NoS w w') : QRow T w' lo v l := h.keep k (fun _ _ f => f)
theorem QRow.lo {T : TypeId} {w : World} {lo : Nat} {v : Value} {l : List Int} (h : QRow T w lo v l) {g : Nat} (hg : v.ownBlock = some g) : lo ≤ g := by
  rcases h.q with ⟨rfl, rfl⟩ | ⟨g', off, cap, rfl, h1, _⟩
  · simp [Value.ownBlock] at hg
  · simp [Value.ownBlock] at hg; omega
theorem QRow.lt {T : TypeId} {w : World} {lo : Nat} {v : Value} {l : List Int} (h : QRow T w lo v l) {g : Nat} (hg : v.ownBlock = some g) : g < w.heap.size := by
  rcases h.q with ⟨rfl, rfl⟩ | ⟨g', off, cap, rfl, _, _, _, cur, U, h4, _⟩
  · simp [Value.ownBlock] at hg
  · simp [Value.ownBlock] at hg; subst hg; exact blk_lt h4
theorem QRow.slice {T : TypeId} {w : World} {lo : Nat} {v : Value} {l : List Int} (h : QRow T w lo v l) : ∃ p c, v = .slice p l.length c := by
  rcases h.q with ⟨rfl, rfl⟩ | ⟨g', off, cap, rfl, _⟩
  · exact ⟨_, _, rfl⟩
  · exact ⟨_, _, rfl⟩
/-- at the front: what stands there, and what is left -/
theorem QRow.form {T : TypeId} {w : World} {lo : Nat} {v : Value} {l : List Int} (h : QRow T w lo v l) (hn : 0 < l.length) : ∃ g off cap, v = .slice (some ⟨g, off, none⟩) l.length cap ∧ l.length ≤ cap ∧ cap ≤ maxLen ∧
    (∀ k, k < l.length → w.cell? ⟨g, off + k, none⟩ = some (.int .i64 (l.getD k 0))) ∧ QRow T w lo (.slice (if cap = 1 then some ⟨g, off, none⟩ else some ⟨g, off + 1, none⟩) (l.length - 1) (cap - 1)) l.tail ∧ g < w.heap.size := by
  rcases h.q with ⟨rfl, rfl⟩ | ⟨g, off, cap, rfl, h1, h2, h3, cur, U, h4, h5, h6⟩
  · simp at hn
  · refine ⟨g, off, cap, rfl, h2, h3, fun k hk => by rw [blk_cell h4]; exact h6 k hk, ⟨.inr ?_⟩, blk_lt h4⟩
    have hl : l.tail.length = l.length - 1 := by simp
    by_cases e : cap = 1
    · rw [if_pos e]
      refine ⟨g, off, cap - 1, by rw [hl], h1, by omega, by omega, cur, U, h4, by omega, fun k hk => absurd hk (by omega)⟩
    · rw [if_neg e]
      refine ⟨g, off + 1, cap - 1, by rw [hl], h1, by omega, by omega, cur, U, h4, by omega, fun k hk => ?_⟩
      have e1 : l.tail.getD k 0 = l.getD (k + 1) 0 := by
        cases l with
        | nil => simp at hn
        | cons x l => rfl
      rw [e1, ← h6 (k + 1) (by omega)]
      congr 1; omega
/-- one number put behind -/
theorem QRow.run1 {T S : TypeId} {i : TypeInfo} (hT : IntT T S i) {w : World} {lo : Nat} {v : Value} {l : List Int} (h : QRow T w lo v l) (ty : TypeId) (b c : Nat) (z : Int) (hz : w.cell? ⟨b, 0, none⟩ = some (.int .i64 z)) (hlen : l.length ≤ 10000) (hlo : lo ≤ w.heap.size) :
    ∃ v' w', (Builtin.append_ #[S, S] ty #[v, .slice (some ⟨b, 0, none⟩) 1 c]).run Try.prog w = .ok v' w' ∧ QRow T w' lo v' (l ++ [z]) ∧ Keeps (fun g => v.ownBlock = some g) w w' ∧ (∀ g, v'.ownBlock = some g → v.ownBlock = some g ∨ g = w.heap.size) := by
  have hmax : (100000 : Nat) ≤ maxLen := by unfold maxLen; omega
  have hbig : maxLen ≤ 9223372036854775807 := by unfold maxLen; omega
  have hnews : ∀ j u, [Value.int .i64 z][j]? = some u → w.cell? ((⟨b, 0, none⟩ : Addr).add j) = some u := by
    intro j u hu
    have hj : j < 1 := by have := (List.getElem?_eq_some_iff.1 hu).1; simpa using this
    obtain rfl : j = 0 := by omega
    have hu' : Value.int .i64 z = u := by simpa using hu
    rw [add_zero_off, hz, hu']
  have h1c : ∀ u ∈ [Value.int .i64 z], u.oneCell' = true := by simp [Value.oneCell']
  rcases h.q with ⟨rfl, rfl⟩ | ⟨g, off, cap, rfl, h1, h2, h3, cur, U, h4, h5, h6⟩
  · have hr := RowI.nil T w lo
    obtain ⟨v', w', hrun, ho, hg, hb⟩ := run_append_fp (P := Try.prog) w S ty T i (.int .i64 0) 1 8 hT.fu hT.fi hT.fz hT.fs hT.fb rfl (by decide) (.slice none 0 0) 0 [] hr.own ⟨b, 0, none⟩ 1 c [.int .i64 z] rfl hnews h1c (by omega) (by decide)
    have hm := RowI.made (news := [z]) hr hlo ho hb
    refine ⟨v', w', hrun, ?_, (Keeps.refl _ w).grown hg (fun g hg _ => hg), hb⟩
    obtain ⟨g, cap, hv, q1, q2, q3, q4, q5⟩ := hm.form (by simp)
    rcases hm.own.2 with ⟨_, hz⟩ | ⟨g', cap', cur, hv', _, hg', _, _, hcs, _⟩
    · simp at hz
    · subst hv
      simp only [Value.slice.injEq] at hv'
      obtain ⟨hgg, _, hcc⟩ := hv'
      simp only [Option.some.injEq, Addr.mk.injEq] at hgg
      obtain ⟨rfl, _⟩ := hgg
      subst hcc
      refine ⟨.inr ⟨g, 0, cap, rfl, q1, q3, q4, cur, T, hg', by rw [hcs]; omega, fun k hk => ?_⟩⟩
      have := q5 k hk
      rw [blk_cell hg'] at this
      rw [Nat.zero_add]; exact this
  · by_cases hroom : l.length + 1 ≤ cap
    · have hoff : off + l.length * i.size = off + l.length := by rw [hT.fs, Nat.mul_one]
      have hsz : off + l.length < cur.size := by omega
      have hrun := run_append_room_cells (P := Try.prog) w S ty T i hT.fu hT.fi g off l.length cap ⟨b, 0, none⟩ 1 c [.int .i64 z] (by rw [hT.fs]; rfl) hnews h1c hroom
        (fun j hj => by
          have hj0 : j = 0 := by simpa using hj
          subst hj0
          rw [hoff, Nat.add_zero, blk_cell h4]; simp [hsz]) (fun j hj => by rw [blk_free h4])
      rw [hoff] at hrun
      have hset : w.setCells g (off + l.length) [.int .i64 z] = w.setCell ⟨g, off + l.length, none⟩ (.int .i64 z) := rfl
      rw [hset] at hrun
      refine ⟨_, _, hrun, ⟨.inr ⟨g, off, cap, by simp, h1, by simp; omega, h3, _, U, blk_set h4 _ _, by simp; omega, fun k hk => ?_⟩⟩, (Keeps.refl (fun g' => (Value.slice (some ⟨g, off, none⟩) l.length cap).ownBlock = some g') w).setCell (p := ⟨g, off + l.length, none⟩) (fun _ => rfl) _, fun g' hg' => .inl hg'⟩
      simp only [List.length_append, List.length_singleton] at hk
      rw [Array.getElem?_setIfInBounds]
      by_cases e : k = l.length
      · subst e; rw [if_pos rfl, if_pos hsz]; simp [List.getD_eq_getElem?_getD]
      · rw [if_neg (by omega), h6 k (by omega)]
        rw [List.getD_eq_getElem?_getD, List.getD_eq_getElem?_getD, List.getElem?_append_left (by omega)]
    · obtain ⟨v', w', hrun, ho, hg⟩ := run_append_arg_grows (P := Try.prog) w S ty T i (.int .i64 0) 1 8 hT.fu hT.fi hT.fz hT.fs hT.fb rfl (by decide) ⟨g, off, none⟩ l.length cap (intsV l) (by rw [intsV_len]; omega)
        (fun j u hu => by
          have hj : j < l.length := by rw [← intsV_len]; exact (List.getElem?_eq_some_iff.1 hu).1
          rw [intsV_get l j hj] at hu
          rw [Go.WideShapes.add_plain, blk_cell h4, h6 j hj]; exact hu) ⟨b, 0, none⟩ 1 c [.int .i64 z] rfl hnews (by omega) (by omega) (by omega)
      refine ⟨v', w', hrun, ?_, ((Keeps.refl NoS w).grown hg (fun g hg _ => by simp at hg)).no, fun g' hg' => .inr ?_⟩
      · rcases ho.2 with ⟨_, hz⟩ | ⟨g', cap', cur', rfl, hb', hg', hn', hm', hcs, htk⟩
        · simp at hz
        · refine ⟨.inr ⟨g', 0, cap', by simp, by omega, by simp; exact hn', hm', cur', T, hg', by rw [hcs]; omega, fun k hk => ?_⟩⟩
          have e1 : intsV l ++ [.int .i64 z] = intsV (l ++ [z]) := by simp [intsV]
          have e2 := intsV_get (l ++ [z]) k hk
          rw [← e1, ← htk, List.getElem?_take] at e2
          rw [Nat.zero_add]
          split at e2
          · simpa using e2
          · cases e2
      · rcases ho.2 with ⟨hv0, hz⟩ | ⟨g2, cap', cur', rfl, hb', hg2, _⟩
        · simp at hz
        · simp [Value.ownBlock] at hg'
          subst hg'
          have h8 := run_append_grow (P := Try.prog) w S ty T i (.int .i64 0) hT.fu hT.fi hT.fz ⟨g, off, none⟩ l.length cap (intsV l) (by rw [intsV_len, hT.fs]; omega)
            (fun j u hu => by
              have hj : j < l.length := by rw [← intsV_len]; exact (List.getElem?_eq_some_iff.1 hu).1
              rw [intsV_get l j hj] at hu
              rw [Go.WideShapes.add_plain, blk_cell h4, h6 j hj]; exact hu) ⟨b, 0, none⟩ 1 c [.int .i64 z] (by rw [hT.fs]; rfl) hnews (by omega) (by omega) (by rw [hT.fb]; exact growslice_fits (by omega) (by omega))
          rw [hrun] at h8
          simp only [Result.ok.injEq, Value.slice.injEq, Option.some.injEq, Addr.mk.injEq] at h8
          exact h8.1.1.1
theorem wpList_q1 {T S : TypeId} {i : TypeInfo} (hT : IntT T S i) (w : World) {ops : Array Oper} {rest : List Oper} {o : Oper} {a : Act} {Q : Exit → Act → World → Prop} (hgd : o.guard = none) (s x : Operand)
    (ho : o.op = .call { callee := .builtin .append, args := #[s, x], argTypes := #[S, S] })
    (lo : Nat) (v : Value) (l : List Int) (hs : a.eval s = v) (hr : QRow T w lo v l) (g c : Nat) (z : Int) (hx : a.eval x = .slice (some ⟨g, 0, none⟩) 1 c)
    (hz : w.cell? ⟨g, 0, none⟩ = some (.int .i64 z)) (hlen : l.length ≤ 10000) (hlo : lo ≤ w.heap.size)
    (h : ∀ v' w', QRow T w' lo v' (l ++ [z]) → Keeps (fun g => v.ownBlock = some g) w w' → (∀ g, v'.ownBlock = some g → v.ownBlock = some g ∨ g = w.heap.size) → wpList Try.prog ops Q rest (a.put o.dst v') w') :
    wpList Try.prog ops Q (o :: rest) a w := by
  refine wpList_plain hgd fun K hK' => ?_
  obtain ⟨v', w', hrun, h2, h3, h4⟩ := hr.run1 hT o.type g c z hz hlen hlo
  unfold Oper.wp execOp
  simp only [ho, resolve, invoke, builtin, Sem.run_bind, Sem.run_pure, Result.andThen_ok, List.map_toArray, List.map_cons, List.map_nil, hs, hx, hrun]
  exact hK' _ _ (h v' w' h2 h3 h4)
end Go.Proofs.Ytodaiogefgdcpaa
