/- A region that draws its order, loads cells, calls, and at its end stores into the very cells that it has loaded: what the loads read need stand only until the store that waits for them. -/
import Derived.Deep.RegionHeld3
namespace Go.Proofs.Ytfmamedkiaimpaa
section
variable {P : Program} {ops : Array Oper} {Q : Exit → Act → World → Prop} {md : Region.Mode} {S S1 S2 : World → Prop} {s s1 s2 : Nat}
/-- Two conditions on the world: S1 holds till number s1 comes up, S2 till number s2. -/
def ReqK (s1 : Nat) (S1 : World → Prop) (s2 : Nat) (S2 : World → Prop) (listed : Array Bool) (w : World) : Prop := (listed.getD s1 true = false → S1 w) ∧ (listed.getD s2 true = false → S2 w)
theorem ReqK.back {listed : Array Bool} {w : World} {i : Nat} (h1 : s1 ≠ i) (h2 : s2 ≠ i) (h : ReqK s1 S1 s2 S2 (listed.setIfInBounds i true) w) : ReqK s1 S1 s2 S2 listed w :=
  ⟨fun e => h.1 (by rw [getD_set_ne true (Ne.symm h1)]; exact e), fun e => h.2 (by rw [getD_set_ne true (Ne.symm h2)]; exact e)⟩
theorem ReqK.on {listed : Array Bool} {w : World} {i : Nat} (h1 : s1 ≠ i) (h2 : s2 ≠ i) (h : ReqK s1 S1 s2 S2 listed w) : ReqK s1 S1 s2 S2 (listed.setIfInBounds i true) w :=
  ⟨fun e => h.1 (by rw [getD_set_ne true (Ne.symm h1)] at e; exact e), fun e => h.2 (by rw [getD_set_ne true (Ne.symm h2)] at e; exact e)⟩
/-- Whatever order is picked from here on, the two conditions hold as long as they are asked. -/
def wpAnyK (P : Program) (md : Region.Mode) (ops : Array Oper) (Q : Exit → Act → World → Prop) (s1 : Nat) (S1 : World → Prop) (s2 : Nat) (S2 : World → Prop) : Nat → Array Bool → Act → World → Prop
  | 0, listed, a, w => Region.ready md ops listed = [] ∧ Q .normal a w
  | fuel + 1, listed, a, w =>
    (Region.ready md ops listed = [] → Q .normal a w) ∧
    ∀ i ∈ Region.ready md ops listed, wpOp P ops Q i (fun a' w' => ReqK s1 S1 s2 S2 (listed.setIfInBounds i true) w' ∧ wpAnyK P md ops Q s1 S1 s2 S2 fuel (listed.setIfInBounds i true) a' w') a w
theorem wpAny_of_kept : ∀ (fuel : Nat) (listed : Array Bool) (a : Act) (w : World), wpAnyK P md ops Q s1 S1 s2 S2 fuel listed a w → wpAny P md ops Q fuel listed a w
  | 0, _, _, _, h => h
  | fuel + 1, _, _, _, h => ⟨h.1, fun i hi => wpOp_mono (fun a' w' h' => wpAny_of_kept fuel _ a' w' h'.2) (h.2 i hi)⟩
/-- An operation that yields its value in every world that meets S may be taken first, where S follows from what is asked as long as it has not come up (hK). -/
theorem wpAnyK_first {i : Nat} {oi : Oper} {v : Value} {s : Nat} (hi : ops[i]? = some oi) (hsel : ∀ (j : Nat) (o : Oper) cs b, ops[j]? = some o → o.op ≠ .select cs b)
    (hQ : ∀ c a w, Q (.panic c) (a.put oi.dst v) w → Q (.panic c) a w) (n1 : s1 ≠ i) (n2 : s2 ≠ i) (hsi : s ≠ i) (hdep : ∀ os, ops[s]? = some os → ∃ e ∈ os.after, Region.binds md e = true ∧ e.on = i)
    (hK : ∀ listed w, listed.getD s true = false → ReqK s1 S1 s2 S2 listed w → S w) :
    ∀ (fuel : Nat) (listed : Array Bool) (a : Act) (w : World),
      (∀ j oj, ops[j]? = some oj → j ≠ i → listed.getD j true = false → (∀ e ∈ oj.after, Region.binds md e = true → e.on ≠ i) → oi.apart ops oj = true) →
      i ∈ Region.ready md ops listed → YieldsIf P ops S oi v a → ReqK s1 S1 s2 S2 listed w → listed.getD s true = false →
      wpAnyK P md ops Q s1 S1 s2 S2 fuel (listed.setIfInBounds i true) (a.put oi.dst v) w → wpAnyK P md ops Q s1 S1 s2 S2 (fuel + 1) listed a w := by
  intro fuel
  induction fuel with
  | zero =>
    intro listed a w _ hr hy hS hs H
    refine ⟨fun h => (by rw [h] at hr; cases hr), fun j hj => ?_⟩
    by_cases hji : j = i
    · subst hji; exact hy.wpOp hi (hK _ _ hs hS) ⟨hS.on n1 n2, H⟩
    · have := ready_mono hj hji
      rw [H.1] at this
      cases this
  | succ fuel ih =>
    intro listed a w hfree hr hy hS hs H
    refine ⟨fun h => (by rw [h] at hr; cases hr), fun j hj => ?_⟩
    by_cases hji : j = i
    · subst hji; exact hy.wpOp hi (hK _ _ hs hS) ⟨hS.on n1 n2, H⟩
    · have h1 := H.2 j (ready_mono hj hji)
      obtain ⟨hjun, oj, hoj, hall⟩ := mem_ready.1 hj
      have hnot : ∀ e ∈ oj.after, Region.binds md e = true → e.on ≠ i := fun e he hb heq => by
        have h1 := hall e he hb
        have h0 := (mem_ready.1 hr).1
        rw [heq] at h1
        rcases Nat.lt_or_ge i listed.size with h' | h'
        · simp [h'] at h0 h1; rw [h0] at h1; cases h1
        · simp [Array.getElem?_eq_none h'] at h1
      have hjs : j ≠ s := fun e => by
        subst e
        obtain ⟨e, he, hb, ho⟩ := hdep oj hoj
        exact hnot e he hb ho
      have h2 := wpOp_putIf hoj (hfree j oj hoj hji hjun hnot) (fun cs b => hsel i oi cs b hi) (fun cs b => hsel j oj cs b hoj) hQ hy h1
      have hfree' : ∀ k ok, ops[k]? = some ok → k ≠ i → (listed.setIfInBounds j true).getD k true = false →
          (∀ e ∈ ok.after, Region.binds md e = true → e.on ≠ i) → oi.apart ops ok = true := fun k ok hk hki hun hno => by
        refine hfree k ok hk hki ?_ hno
        by_cases hjk : j = k
        · subst hjk; exact hjun
        · rw [getD_set_ne true hjk] at hun; exact hun
      have hs1 : (listed.setIfInBounds j true).getD s true = false := by rw [getD_set_ne true hjs]; exact hs
      have key : ∀ w', ReqK s1 S1 s2 S2 ((listed.setIfInBounds i true).setIfInBounds j true) w' → ReqK s1 S1 s2 S2 (listed.setIfInBounds j true) w' := fun w' h => by
        rw [Array.setIfInBounds_comm _ _ (Ne.symm hji)] at h
        exact h.back n1 n2
      refine wpOp_mono (fun a' w' h3 => ⟨key w' h3.2.1, ih (listed.setIfInBounds j true) a' w' hfree' (ready_mono hr (Ne.symm hji)) h3.1 (key w' h3.2.1) hs1 ?_⟩) h2
      rw [Array.setIfInBounds_comm _ _ hji]
      exact h3.2.2
/-- does number s wait for number i? -/
def waitsFor (md : Region.Mode) (ops : Array Oper) (s i : Nat) : Bool := (ops[s]?).all (fun o => o.after.any (fun e => Region.binds md e && e.on == i)) && s != i
theorem waitsFor_spec {md : Region.Mode} {ops : Array Oper} {s i : Nat} (h : waitsFor md ops s i = true) : s ≠ i ∧ ∀ os, ops[s]? = some os → ∃ e ∈ os.after, Region.binds md e = true ∧ e.on = i := by
  simp only [waitsFor, Bool.and_eq_true, bne_iff_ne] at h
  refine ⟨h.2, fun os ho => ?_⟩
  have h1 := h.1
  rw [ho] at h1
  simp only [Option.all_some, Array.any_eq_true', Bool.and_eq_true, beq_iff_eq] at h1
  exact h1
/-- taken first: number s1 waits for it -/
theorem wpAnyK_take1 {i : Nat} {oi : Oper} {v : Value} {fuel : Nat} {listed : Array Bool} {a : Act} {w : World} (hi : ops[i]? = some oi)
    (hs : Region.noSelect ops = true) (hf : Region.free md ops listed i = true) (hr : (Region.ready md ops listed).contains i = true) (hw : waitsFor md ops s1 i = true) (hl : listed.getD s1 true = false) (hn : (s2 != i) = true)
    (hQ : ∀ c a w, Q (.panic c) (a.put oi.dst v) w → Q (.panic c) a w) (hy : YieldsIf P ops S1 oi v a) (hS : ReqK s1 S1 s2 S2 listed w)
    (h : wpAnyK P md ops Q s1 S1 s2 S2 fuel (listed.setIfInBounds i true) (a.put oi.dst v) w) : wpAnyK P md ops Q s1 S1 s2 S2 (fuel + 1) listed a w :=
  wpAnyK_first hi (Region.noSelect_spec hs) hQ (waitsFor_spec hw).1 (bne_iff_ne.1 hn) (waitsFor_spec hw).1 (waitsFor_spec hw).2 (fun _ _ hl hR => hR.1 hl) fuel listed a w (Region.free_spec hi hf) (by simpa using hr) hy hS hl h
/-- taken first: number s2 waits for it -/
theorem wpAnyK_take2 {i : Nat} {oi : Oper} {v : Value} {fuel : Nat} {listed : Array Bool} {a : Act} {w : World} (hi : ops[i]? = some oi)
    (hs : Region.noSelect ops = true) (hf : Region.free md ops listed i = true) (hr : (Region.ready md ops listed).contains i = true) (hw : waitsFor md ops s2 i = true) (hl : listed.getD s2 true = false) (hn : (s1 != i) = true)
    (hQ : ∀ c a w, Q (.panic c) (a.put oi.dst v) w → Q (.panic c) a w) (hy : YieldsIf P ops S2 oi v a) (hS : ReqK s1 S1 s2 S2 listed w)
    (h : wpAnyK P md ops Q s1 S1 s2 S2 fuel (listed.setIfInBounds i true) (a.put oi.dst v) w) : wpAnyK P md ops Q s1 S1 s2 S2 (fuel + 1) listed a w :=
  wpAnyK_first hi (Region.noSelect_spec hs) hQ (bne_iff_ne.1 hn) (waitsFor_spec hw).1 (waitsFor_spec hw).1 (waitsFor_spec hw).2 (fun _ _ hl hR => hR.2 hl) fuel listed a w (Region.free_spec hi hf) (by simpa using hr) hy hS hl h
theorem wpAnyK_done {listed : Array Bool} {a : Act} {w : World} (hr : Region.ready md ops listed = []) (h : Q .normal a w) :
    ∀ fuel, wpAnyK P md ops Q s1 S1 s2 S2 fuel listed a w
  | 0 => ⟨hr, h⟩
  | _ + 1 => ⟨fun _ => h, by rw [hr]; simp⟩
theorem wp_region_kept_drew {id : Nat} {a : Act} {w : World} (s1 : Nat) (S1 : World → Prop) (s2 : Nat) (S2 : World → Prop) (hm : P.follows .mixedOrders = true) (h1 : S1 w.drew) (h2 : S2 w.drew)
    (h : ∀ hs : (∀ listed, ReqK s1 S1 s2 S2 listed w.drew), wpAnyK P .any ops Q s1 S1 s2 S2 ops.size (Array.replicate ops.size false) a w.drew) : (Code.region id ops true).wp P Q a w :=
  wp_region_any hm (wpAny_of_kept _ _ _ _ (h (fun _ => ⟨fun _ => h1, fun _ => h2⟩)))
/-- The one operation that may come up comes up: both conditions are shown anew. -/
theorem wpAnyK_one {i : Nat} {o : Oper} {fuel : Nat} {listed : Array Bool} {a : Act} {w : World} (hr : Region.ready md ops listed = [i]) (ho : ops[i]? = some o)
    (h : ∀ K' : Act → World → Prop, Shut (∀ a w, S1 w → S2 w → ((∀ listed, ReqK s1 S1 s2 S2 listed w) → wpAnyK P md ops Q s1 S1 s2 S2 fuel (listed.setIfInBounds i true) a w) → K' a w) → if Region.wanted o (yielded ops a.tmps) = true then Oper.wp P o a w K' Q else K' (a.put o.dst undef) w) :
    wpAnyK P md ops Q s1 S1 s2 S2 (fuel + 1) listed a w := by
  refine ⟨fun h0 => by rw [hr] at h0; exact absurd h0 (by simp), fun j hj => ?_⟩
  rw [hr, List.mem_singleton] at hj
  subst hj
  exact wpOp_step ho (fun K' hK => h K' (fun a w h1 h2 hW => hK a w ⟨⟨fun _ => h1, fun _ => h2⟩, hW (fun _ => ⟨fun _ => h1, fun _ => h2⟩)⟩))
/-- Number s1 comes up, or one behind it: the second condition is shown anew. -/
theorem wpAnyK_mid {i : Nat} {o : Oper} {fuel : Nat} {listed : Array Bool} {a : Act} {w : World} (hr : Region.ready md ops listed = [i]) (ho : ops[i]? = some o) (hn : (listed.setIfInBounds i true).getD s1 true = true)
    (h : ∀ K' : Act → World → Prop, Shut (∀ a w, S2 w → (S2 w → wpAnyK P md ops Q s1 S1 s2 S2 fuel (listed.setIfInBounds i true) a w) → K' a w) → if Region.wanted o (yielded ops a.tmps) = true then Oper.wp P o a w K' Q else K' (a.put o.dst undef) w) :
    wpAnyK P md ops Q s1 S1 s2 S2 (fuel + 1) listed a w := by
  refine ⟨fun h0 => by rw [hr] at h0; exact absurd h0 (by simp), fun j hj => ?_⟩
  rw [hr, List.mem_singleton] at hj
  subst hj
  exact wpOp_step ho (fun K' hK => h K' (fun a w h2 hW => hK a w ⟨⟨fun h' => by rw [hn] at h'; exact absurd h' (by simp), fun _ => h2⟩, hW h2⟩))
theorem ReqK.mid {listed : Array Bool} {w : World} (hn : listed.getD s1 true = true) (h : S2 w) : ReqK s1 S1 s2 S2 listed w :=
  ⟨fun h' => by rw [hn] at h'; exact absurd h' (by simp), fun _ => h⟩
/-- Number s2 comes up, or one behind it, number s1 having come up: nothing is asked. -/
theorem wpAnyK_last {i : Nat} {o : Oper} {fuel : Nat} {listed : Array Bool} {a : Act} {w : World} (hr : Region.ready md ops listed = [i]) (ho : ops[i]? = some o) (hn : (listed.setIfInBounds i true).getD s1 true = true) (hn2 : (listed.setIfInBounds i true).getD s2 true = true)
    (h : ∀ K' : Act → World → Prop, Shut (∀ a w, wpAnyK P md ops Q s1 S1 s2 S2 fuel (listed.setIfInBounds i true) a w → K' a w) → if Region.wanted o (yielded ops a.tmps) = true then Oper.wp P o a w K' Q else K' (a.put o.dst undef) w) :
    wpAnyK P md ops Q s1 S1 s2 S2 (fuel + 1) listed a w := by
  refine ⟨fun h0 => by rw [hr] at h0; exact absurd h0 (by simp), fun j hj => ?_⟩
  rw [hr, List.mem_singleton] at hj
  subst hj
  exact wpOp_step ho (fun K' hK => h K' (fun a w hW => hK a w ⟨⟨fun h' => by rw [hn] at h'; exact absurd h' (by simp), fun h' => by rw [hn2] at h'; exact absurd h' (by simp)⟩, hW⟩))
end
end Go.Proofs.Ytfmamedkiaimpaa
namespace Go.Proofs.Ytfmamedkiaimpaa
section
variable {P : Program} {ops : Array Oper} {Q : Exit → Act → World → Prop} {md : Region.Mode} {S1 S2 : World → Prop} {s1 s2 : Nat}
theorem wpAnyK_firstT {i : Nat} {oi : Oper} {v : Value} (hi : ops[i]? = some oi) (hsel : ∀ (j : Nat) (o : Oper) cs b, ops[j]? = some o → o.op ≠ .select cs b)
    (hQ : ∀ c a w, Q (.panic c) (a.put oi.dst v) w → Q (.panic c) a w) (n1 : s1 ≠ i) (n2 : s2 ≠ i) :
    ∀ (fuel : Nat) (listed : Array Bool) (a : Act) (w : World),
      (∀ j oj, ops[j]? = some oj → j ≠ i → listed.getD j true = false → (∀ e ∈ oj.after, Region.binds md e = true → e.on ≠ i) → oi.apart ops oj = true) →
      i ∈ Region.ready md ops listed → YieldsIf P ops (fun _ => True) oi v a → ReqK s1 S1 s2 S2 listed w →
      wpAnyK P md ops Q s1 S1 s2 S2 fuel (listed.setIfInBounds i true) (a.put oi.dst v) w → wpAnyK P md ops Q s1 S1 s2 S2 (fuel + 1) listed a w := by
  intro fuel
  induction fuel with
  | zero =>
    intro listed a w _ hr hy hS H
    refine ⟨fun h => (by rw [h] at hr; cases hr), fun j hj => ?_⟩
    by_cases hji : j = i
    · subst hji; exact hy.wpOp hi trivial ⟨hS.on n1 n2, H⟩
    · have := ready_mono hj hji
      rw [H.1] at this
      cases this
  | succ fuel ih =>
    intro listed a w hfree hr hy hS H
    refine ⟨fun h => (by rw [h] at hr; cases hr), fun j hj => ?_⟩
    by_cases hji : j = i
    · subst hji; exact hy.wpOp hi trivial ⟨hS.on n1 n2, H⟩
    · have h1 := H.2 j (ready_mono hj hji)
      obtain ⟨hjun, oj, hoj, hall⟩ := mem_ready.1 hj
      have hnot : ∀ e ∈ oj.after, Region.binds md e = true → e.on ≠ i := fun e he hb heq => by
        have h1 := hall e he hb
        have h0 := (mem_ready.1 hr).1
        rw [heq] at h1
        rcases Nat.lt_or_ge i listed.size with h' | h'
        · simp [h'] at h0 h1; rw [h0] at h1; cases h1
        · simp [Array.getElem?_eq_none h'] at h1
      have h2 := wpOp_putIf hoj (hfree j oj hoj hji hjun hnot) (fun cs b => hsel i oi cs b hi) (fun cs b => hsel j oj cs b hoj) hQ hy h1
      have hfree' : ∀ k ok, ops[k]? = some ok → k ≠ i → (listed.setIfInBounds j true).getD k true = false →
          (∀ e ∈ ok.after, Region.binds md e = true → e.on ≠ i) → oi.apart ops ok = true := fun k ok hk hki hun hno => by
        refine hfree k ok hk hki ?_ hno
        by_cases hjk : j = k
        · subst hjk; exact hjun
        · rw [getD_set_ne true hjk] at hun; exact hun
      have key : ∀ w', ReqK s1 S1 s2 S2 ((listed.setIfInBounds i true).setIfInBounds j true) w' → ReqK s1 S1 s2 S2 (listed.setIfInBounds j true) w' := fun w' h => by
        rw [Array.setIfInBounds_comm _ _ (Ne.symm hji)] at h
        exact h.back n1 n2
      refine wpOp_mono (fun a' w' h3 => ⟨key w' h3.2.1, ih (listed.setIfInBounds j true) a' w' hfree' (ready_mono hr (Ne.symm hji)) h3.1 (key w' h3.2.1) ?_⟩) h2
      rw [Array.setIfInBounds_comm _ _ hji]
      exact h3.2.2
theorem wpAnyK_takeT {i : Nat} {oi : Oper} {v : Value} {fuel : Nat} {listed : Array Bool} {a : Act} {w : World} (hi : ops[i]? = some oi)
    (hs : Region.noSelect ops = true) (hf : Region.free md ops listed i = true) (hr : (Region.ready md ops listed).contains i = true) (h1 : (s1 != i) = true) (h2 : (s2 != i) = true)
    (hQ : ∀ c a w, Q (.panic c) (a.put oi.dst v) w → Q (.panic c) a w) (hy : YieldsIf P ops (fun _ => True) oi v a) (hS : ReqK s1 S1 s2 S2 listed w)
    (h : wpAnyK P md ops Q s1 S1 s2 S2 fuel (listed.setIfInBounds i true) (a.put oi.dst v) w) : wpAnyK P md ops Q s1 S1 s2 S2 (fuel + 1) listed a w :=
  wpAnyK_firstT hi (Region.noSelect_spec hs) hQ (bne_iff_ne.1 h1) (bne_iff_ne.1 h2) fuel listed a w (Region.free_spec hi hf) (by simpa using hr) hy hS h
end
end Go.Proofs.Ytfmamedkiaimpaa
