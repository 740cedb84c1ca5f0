/- The lock that is a queue: what stays so whoever goes on (no program in sight). -/
import Derived.Test.YtchgfdfdkcijnaaMcsPlain
namespace Go.Proofs.Ytchgfdfdkcijnaa
open Go.RowKit
def upd (g : Nat → Int) (t : Nat) (v : Int) : Nat → Int := fun k => if k = t then v else g k
theorem upd_same {g : Nat → Int} {t : Nat} {v : Int} : upd g t v t = v := if_pos rfl
theorem upd_ne {g : Nat → Int} {t k : Nat} {v : Int} (h : k ≠ t) : upd g t v k = g k := if_neg h
/-- a lock's words and four hands: the tail, the gates, the links, the states, the words of the hands -/
structure QA where
  T : Int
  G : Nat → Int
  K : Nat → Int
  s : Nat → Int
  x : Nat → Int
def idn (t : Nat) : Int := 1 + 2 * t
theorem idn_eq (t : Nat) : idA t 0 = idn t := by unfold idA idn; omega
theorem idn_inj {a b : Nat} (h : idn a = idn b) : a = b := by unfold idn at h; omega
theorem idn_ne0 (t : Nat) : idn t ≠ 0 := by unfold idn; omega
theorem thN_idn {t : Nat} (h : t < 4) : thN 0 (idn t) = some t := by rw [← idn_eq]; exact thN_id h
/-- a step to hold it, as the words tell -/
def stepT (A : QA) (t : Nat) : QA :=
  if A.s t = 0 then { A with G := upd A.G t 1, s := upd A.s t 1 }
  else if A.s t = 1 then { A with K := upd A.K t 0, s := upd A.s t 2 }
  else if A.s t = 2 then { A with x := upd A.x t A.T, s := upd A.s t 3 }
  else if A.s t = 3 then (if A.T = A.x t then (if A.x t = 0 then { A with T := idn t, s := upd A.s t 9 } else { A with T := idn t, s := upd A.s t 4 }) else { A with x := upd A.x t A.T })
  else if A.s t = 4 then (match thN 0 (A.x t) with | some u => { A with K := upd A.K u (idn t), s := upd A.s t 5, x := upd A.x t 0 } | none => A)
  else if A.s t = 5 then (if A.G t = 0 then { A with s := upd A.s t 9 } else A)
  else A
def stepD (A : QA) (t : Nat) : QA :=
  if A.s t = 9 then (if A.K t = 0 then { A with s := upd A.s t 7 } else { A with s := upd A.s t 8, x := upd A.x t (A.K t) })
  else if A.s t = 6 then (if A.K t = 0 then A else { A with s := upd A.s t 8, x := upd A.x t (A.K t) })
  else if A.s t = 7 then (if A.T = idn t then { A with T := 0, s := upd A.s t 0 } else { A with s := upd A.s t 6 })
  else if A.s t = 8 then (match thN 0 (A.x t) with | some u => { A with G := upd A.G u 0, s := upd A.s t 0, x := upd A.x t 0 } | none => A)
  else A
/-- who stands behind whom -/
def LkQ (A : QA) (p q : Nat) : Prop := A.G q = 1 ∧ ((A.s q = 4 ∧ A.x q = idn p ∧ A.K p = 0) ∨ (A.s q = 5 ∧ A.K p = idn q))
def ChQ (A : QA) : Nat → List Nat → Prop
  | p, [] => A.K p = 0
  | p, q :: r => LkQ A p q ∧ ChQ A q r
def HdQ (A : QA) (h : Nat) (r : List Nat) : Prop :=
  (A.s h = 5 ∧ A.G h = 0) ∨ A.s h = 9 ∨ A.s h = 7 ∨ (A.s h = 6 ∧ r ≠ []) ∨ (A.s h = 8 ∧ ∃ q r', r = q :: r' ∧ A.s q = 5 ∧ A.x h = idn q)
def lastQ : List Nat → Int
  | [] => 0
  | [q] => idn q
  | _ :: q :: r => lastQ (q :: r)
def QQ (A : QA) : List Nat → Prop
  | [] => True
  | h :: r => HdQ A h r ∧ ChQ A h r
structure QI (A : QA) (Q : List Nat) : Prop where
  nd : Q.Nodup
  lt : ∀ q ∈ Q, q < 4
  tl : A.T = lastQ Q
  out : ∀ t, t < 4 → t ∉ Q → A.s t = 0 ∨ (A.s t = 1 ∧ A.G t = 1) ∨ ((A.s t = 2 ∨ A.s t = 3) ∧ A.G t = 1 ∧ A.K t = 0)
  qq : QQ A Q
theorem lastQ_app (Q : List Nat) (t : Nat) : lastQ (Q ++ [t]) = idn t := by
  induction Q with
  | nil => rfl
  | cons a r ih => cases r with
    | nil => rfl
    | cons b r => exact ih
theorem lastQ_mem : ∀ (Q : List Nat), Q ≠ [] → ∃ q ∈ Q, lastQ Q = idn q
  | [], h => absurd rfl h
  | [q], _ => ⟨q, by simp, rfl⟩
  | _ :: q :: r, _ => by
    obtain ⟨z, hz, e⟩ := lastQ_mem (q :: r) (by simp)
    exact ⟨z, List.mem_cons_of_mem _ hz, e⟩
theorem lastQ_ne {Q : List Nat} (h : Q ≠ []) : lastQ Q ≠ 0 := by
  obtain ⟨q, _, e⟩ := lastQ_mem Q h
  rw [e]; exact idn_ne0 q
theorem lastQ_head {h : Nat} {r : List Nat} (hn : (h :: r).Nodup) (e : lastQ (h :: r) = idn h) : r = [] := by
  cases r with
  | nil => rfl
  | cons a r =>
    obtain ⟨q, hq, e2⟩ := lastQ_mem (a :: r) (by simp)
    have h1 : idn q = idn h := e2.symm.trans e
    have := idn_inj h1
    subst this
    exact absurd hq (List.nodup_cons.1 hn).1
theorem ChQ.congr {A B : QA} : ∀ {r : List Nat} {p : Nat}, ChQ A p r → (∀ q ∈ p :: r, B.K q = A.K q) → (∀ q ∈ r, B.G q = A.G q ∧ B.s q = A.s q ∧ B.x q = A.x q) → ChQ B p r
  | [], p, h, hk, _ => (hk p (by simp)).trans h
  | q :: r, p, h, hk, hg => by
    obtain ⟨g1, g2, g3⟩ := hg q (by simp)
    refine ⟨?_, h.2.congr (fun z hz => hk z (List.mem_cons_of_mem _ hz)) (fun z hz => hg z (List.mem_cons_of_mem _ hz))⟩
    unfold LkQ
    rw [g1, g2, g3, hk p (by simp)]
    exact h.1
theorem ChQ.mem {A : QA} : ∀ {r : List Nat} {p : Nat}, ChQ A p r → ∀ q ∈ r, A.G q = 1 ∧ (A.s q = 4 ∨ A.s q = 5)
  | [], _, _, q, hq => absurd hq (by simp)
  | a :: r, p, h, q, hq => by
    rcases List.mem_cons.1 hq with rfl | hq
    · exact ⟨h.1.1, h.1.2.elim (fun e => .inl e.1) (fun e => .inr e.1)⟩
    · exact h.2.mem q hq
theorem ChQ.last {A : QA} : ∀ {r : List Nat} {p : Nat}, ChQ A p r → ∀ q, lastQ (p :: r) = idn q → A.K q = 0
  | [], p, h, q, e => by have : p = q := idn_inj e; subst this; exact h
  | _ :: _, _, h, q, e => h.2.last q e
theorem ChQ.app {A B : QA} {t l : Nat} : ∀ {r : List Nat} {p : Nat}, ChQ A p r → (∀ q ∈ p :: r, B.K q = A.K q) → (∀ q ∈ r, B.G q = A.G q ∧ B.s q = A.s q ∧ B.x q = A.x q) → lastQ (p :: r) = idn l → LkQ B l t → B.K t = 0 → ChQ B p (r ++ [t])
  | [], p, _, _, _, e, hl, ht => by have : p = l := idn_inj e; subst this; exact ⟨hl, ht⟩
  | q :: r, p, h, hk, hg, e, hl, ht => by
    obtain ⟨g1, g2, g3⟩ := hg q (by simp)
    refine ⟨?_, h.2.app (fun z hz => hk z (List.mem_cons_of_mem _ hz)) (fun z hz => hg z (List.mem_cons_of_mem _ hz)) e hl ht⟩
    unfold LkQ
    rw [g1, g2, g3, hk p (by simp)]
    exact h.1
/-- one links itself -/
theorem ChQ.link {A B : QA} {t u : Nat} : ∀ {r : List Nat} {p : Nat}, ChQ A p r → (p :: r).Nodup → t ∈ r → A.s t = 4 → A.x t = idn u → (∀ q, q ≠ u → B.K q = A.K q) → B.K u = idn t → (∀ q, B.G q = A.G q) → (∀ q, q ≠ t → B.s q = A.s q ∧ B.x q = A.x q) → B.s t = 5 →
    ChQ B p r ∧ u ∈ p :: r ∧ u ≠ t
  | [], _, _, _, ht, _, _, _, _, _, _, _ => absurd ht (by simp)
  | q :: r, p, h, hn, ht, hs, hx, hk, hku, hg, hsx, hst => by
    have hn1 := List.nodup_cons.1 hn
    have hn2 := List.nodup_cons.1 hn1.2
    by_cases e : q = t
    · subst e
      have h4 : A.s q = 4 ∧ A.x q = idn p ∧ A.K p = 0 := by
        rcases h.1.2 with h4 | h5
        · exact h4
        · rw [hs] at h5; exact absurd h5.1 (by decide)
      have hup : u = p := idn_inj (hx.symm.trans h4.2.1)
      subst hup
      have hpq : u ≠ q := fun e => hn1.1 (by rw [e]; simp)
      refine ⟨⟨⟨(hg q).trans h.1.1, .inr ⟨hst, hku⟩⟩, h.2.congr (fun z hz => hk z (fun e => hn1.1 (by rw [← e]; exact hz))) (fun z hz => ?_)⟩, by simp, hpq⟩
      have hz : z ≠ q := fun e => hn2.1 (by rw [← e]; exact hz)
      exact ⟨hg z, hsx z hz⟩
    · have ht2 : t ∈ r := by
        rcases List.mem_cons.1 ht with e2 | ht2
        · exact absurd e2.symm e
        · exact ht2
      obtain ⟨h1, h2, h3⟩ := h.2.link hn1.2 ht2 hs hx hk hku hg hsx hst
      have hpu : p ≠ u := fun e => hn1.1 (by rw [e]; exact h2)
      refine ⟨⟨?_, h1⟩, List.mem_cons_of_mem _ h2, h3⟩
      obtain ⟨g1, g2⟩ := hsx q e
      unfold LkQ
      rw [hg q, g1, g2, hk p hpu]
      exact h.1
/-- its link's word is a number of the queue's -/
theorem ChQ.pred {A : QA} {t : Nat} : ∀ {r : List Nat} {p : Nat}, ChQ A p r → t ∈ r → A.s t = 4 → ∃ u ∈ p :: r, A.x t = idn u
  | [], _, _, ht, _ => absurd ht (by simp)
  | q :: r, p, h, ht, hs => by
    rcases List.mem_cons.1 ht with rfl | ht
    · rcases h.1.2 with h4 | h5
      · exact ⟨p, by simp, h4.2.1⟩
      · rw [hs] at h5; exact absurd h5.1 (by decide)
    · obtain ⟨u, hu, e⟩ := h.2.pred ht hs
      exact ⟨u, List.mem_cons_of_mem _ hu, e⟩
section
variable {A : QA} {Q : List Nat} {t : Nat}
theorem QI.start : QI ⟨0, fun _ => 0, fun _ => 0, fun _ => 0, fun _ => 0⟩ [] := ⟨List.nodup_nil, by simp, rfl, fun _ _ _ => .inl rfl, trivial⟩
/-- whoever is out of the queue stands ahead of his Swap -/
theorem QI.out_s (h : QI A Q) (ht : t < 4) (hq : t ∉ Q) : A.s t = 0 ∨ A.s t = 1 ∨ A.s t = 2 ∨ A.s t = 3 := by
  rcases h.out t ht hq with a | a | a
  · exact .inl a
  · exact .inr (.inl a.1)
  · exact a.1.elim (fun e => .inr (.inr (.inl e))) (fun e => .inr (.inr (.inr e)))
theorem QI.in_s (h : QI A Q) (hq : t ∈ Q) : (∃ r, Q = t :: r ∧ HdQ A t r) ∨ (∃ h0 r, Q = h0 :: r ∧ t ∈ r ∧ A.G t = 1 ∧ (A.s t = 4 ∨ A.s t = 5)) := by
  cases Q with
  | nil => exact absurd hq (by simp)
  | cons a r =>
    rcases List.mem_cons.1 hq with rfl | hq
    · exact .inl ⟨r, rfl, h.qq.1⟩
    · exact .inr ⟨a, r, rfl, hq, h.qq.2.mem t hq⟩
/-- who is at one of these states is in the queue, its head -/
theorem QI.head (h : QI A Q) (ht : t < 4) (hs : A.s t = 9 ∨ A.s t = 7 ∨ A.s t = 6 ∨ A.s t = 8) : ∃ r, Q = t :: r := by
  by_cases hq : t ∈ Q
  · rcases h.in_s hq with ⟨r, e, _⟩ | ⟨_, _, _, _, _, e⟩
    · exact ⟨r, e⟩
    · omega
  · have := h.out_s ht hq; omega
theorem QI.one (h : QI A Q) {u : Nat} (ht : t < 4) (hu : u < 4) (hs : A.s t = 9) (hs2 : A.s u = 9) : t = u := by
  obtain ⟨r, e⟩ := h.head ht (.inl hs)
  obtain ⟨r2, e2⟩ := h.head hu (.inl hs2)
  rw [e] at e2
  exact (List.cons.inj e2).1
theorem QI.notin (h : QI A Q) (ht : t < 4) (hs : A.s t = 0 ∨ A.s t = 1 ∨ A.s t = 2 ∨ A.s t = 3) : t ∉ Q := fun hq => by
  rcases h.in_s hq with ⟨r, e, h5⟩ | ⟨_, _, _, _, _, e⟩
  · rcases h5 with ⟨a, _⟩ | a | a | ⟨a, _⟩ | ⟨a, _⟩ <;> omega
  · omega
/-- one out of the queue goes on -/
theorem QI.outer (h : QI A Q) (ht : t < 4) (hq : t ∉ Q) {B : QA} (hT : B.T = A.T) (hG : ∀ q, q ≠ t → B.G q = A.G q) (hK : ∀ q, q ≠ t → B.K q = A.K q) (hs : ∀ q, q ≠ t → B.s q = A.s q) (hx : ∀ q, q ≠ t → B.x q = A.x q)
    (ho : B.s t = 0 ∨ (B.s t = 1 ∧ B.G t = 1) ∨ ((B.s t = 2 ∨ B.s t = 3) ∧ B.G t = 1 ∧ B.K t = 0)) : QI B Q := by
  have hne : ∀ q ∈ Q, q ≠ t := fun q hm e => hq (e ▸ hm)
  refine ⟨h.nd, h.lt, hT.trans h.tl, fun k hk hkq => ?_, ?_⟩
  · by_cases e : k = t
    · subst e; exact ho
    · rw [hG k e, hK k e, hs k e]; exact h.out k hk hkq
  · cases Q with
    | nil => trivial
    | cons a r =>
      have ha := hne a (by simp)
      refine ⟨?_, h.qq.2.congr (fun q hm => hK q (hne q hm)) (fun q hm => ?_)⟩
      · have := h.qq.1
        unfold HdQ at this ⊢
        rw [hs a ha, hG a ha, hx a ha]
        rcases this with a1 | a1 | a1 | a1 | ⟨a1, q, r', e, e2, e3⟩
        · exact .inl a1
        · exact .inr (.inl a1)
        · exact .inr (.inr (.inl a1))
        · exact .inr (.inr (.inr (.inl a1)))
        · exact .inr (.inr (.inr (.inr ⟨a1, q, r', e, by rw [hs q (hne q (by rw [e]; simp))]; exact e2, e3⟩)))
      · have := hne q (List.mem_cons_of_mem _ hm)
        exact ⟨hG q this, hs q this, hx q this⟩
/-- the head goes on, and stays -/
theorem QI.heads {r : List Nat} (h : QI A (t :: r)) {B : QA} (hT : B.T = A.T) (hG : ∀ q, B.G q = A.G q) (hK : ∀ q, B.K q = A.K q) (hs : ∀ q, q ≠ t → B.s q = A.s q) (hx : ∀ q, q ≠ t → B.x q = A.x q) (ho : HdQ B t r) : QI B (t :: r) := by
  have hn := List.nodup_cons.1 h.nd
  refine ⟨h.nd, h.lt, hT.trans h.tl, fun k hk hkq => ?_, ho, h.qq.2.congr (fun q _ => hK q) (fun q hm => ?_)⟩
  · have e : k ≠ t := fun e => hkq (by rw [e]; simp)
    rw [hG k, hK k, hs k e]; exact h.out k hk hkq
  · have e : q ≠ t := fun e => hn.1 (e ▸ hm)
    exact ⟨hG q, hs q e, hx q e⟩
end
end Go.Proofs.Ytchgfdfdkcijnaa
