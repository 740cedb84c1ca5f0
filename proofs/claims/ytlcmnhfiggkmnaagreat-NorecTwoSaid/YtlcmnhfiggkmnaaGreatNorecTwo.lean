/- NorecTwo: for every input the law returns true, and each argument reads behind the call as it read before. No condition. -/
import Derived.Test.YtlcmnhfiggkmnaaGreatRows
import Derived.Test.YtlcmnhfiggkmnaaGreatIn
import Derived.Test.YtlcmnhfiggkmnaaGreatIn2
import Derived.Test.YtlcmnhfiggkmnaaGreatIn3
import Derived.Test.YtlcmnhfiggkmnaaGreatNorecTwoW
import Derived.WalkKit
import Derived.ProofKit
import Derived.OpenShut
import Derived.ChangeOld
import Derived.Below
namespace Go.Proofs.YtlcmnhfiggkmnaaGreat.norecTwo
open Go.ChangeShapes Go.WideShapes Go.ChangeAt Go.RowKit
set_option linter.unusedVariables false

theorem own : ownKnob Tryz.prog.godebug = none := by kernel_rfl
theorem laidOut : laidOutB Tryz.prog = true := by kernel_rfl

set_option maxRecDepth 100000 in
theorem lifted (os : Os) (started : os.Started) (H : Type) (enc : TypeId × Value → H) :
    ReturnsInHanded {} Tryz.checked os 3 .any (Rows.norecTwoSpec.pre6 enc Tryz.prog Tryz.f3 Rows.norecTwoRow.domain false) (Rows.norecTwoSpec.post enc Tryz.prog Tryz.f3 false true false false) := by
  refine returnsInHanded_of_change (C := Tryz.checked) own started (by kernel_rfl) Tryz.func3
    (ChangeSpec.witness6 (enc := enc) (C := Tryz.checked) false ⟨#[], #[.int .i64 0, .slice none 0 0, .slice none 0 0, .slice none 0 0], []⟩ 8 (by kernel_rfl) (by kernel_rfl) (by kernel_rfl) (by kernel_rfl)) ?_
  intro W base args ds gs before hval0 hW hcnd _
  have hval : ∀ (j : Nat) t v, Tryz.f3.params[j]? = some t → args[j]? = some v → Value.okWide Tryz.prog W .any base t v := hval0
  have hW' := hW
  obtain ⟨p, q, hA0, hV, rfl, hfz, hnd⟩ := hW
  have hA : DataW.TrodAll enc Tryz.prog W 0 (fun _ => true) true Tryz.f3.params.toList args.toList ds p := hA0
  rw [Tryz.params3] at hA hval
  obtain ⟨v0, vs0, d0, ds0, p0, q0, hargs, rfl, rfl, h0, r0⟩ := trodAll_cons hA
  obtain ⟨v1, vs1, d1, ds1, p1, q1, rfl, rfl, rfl, h1, r1⟩ := trodAll_cons r0
  obtain ⟨v2, vs2, d2, ds2, p2, q2, rfl, rfl, rfl, h2, r2⟩ := trodAll_cons r1
  obtain ⟨v3, vs3, d3, ds3, p3, q3, rfl, rfl, rfl, h3, r3⟩ := trodAll_cons r2
  obtain ⟨rfl, rfl, rfl⟩ := trodAll_nil r3
  obtain rfl : args = #[v0, v1, v2, v3] := by cases args; simp_all
  obtain ⟨rfl, rfl⟩ := trodVars_none hV
  obtain ⟨a0, rfl, rfl, rfl, w0⟩ := open_int Tryz.underlying3 (hval 0 3 v0 rfl rfl) h0
  have k1 := h1
  have lt1 : ∀ x ∈ p1, x.block < W.heap.size := by obtain ⟨m, hm⟩ := k1; exact DataW.trod_lt m _ _ _ hm
  obtain ⟨b1, len1, cap1, rfl⟩ := okWide_slice Tryz.underlying22 (hval 1 22 v1 rfl rfl)
  obtain ⟨z1, g1⟩ : ∃ ls, InN 3 W (.slice b1 len1 cap1) ls := by
    obtain ⟨fuel, hf⟩ := h1
    refine inN_of (by decide) Tryz.underlying22 Tryz.underlying43 (by kernel_rfl) rfl ?_ hf
    intro j hj
    match j, hj with
    | 0, _ => exact ⟨_, rfl, rfl, Tryz.underlying3, by kernel_rfl⟩
    | 1, _ => exact ⟨_, rfl, rfl, Tryz.underlying3, by kernel_rfl⟩
    | 2, _ => exact ⟨_, rfl, rfl, Tryz.underlying2, by kernel_rfl⟩
  have k2 := h2
  have lt2 : ∀ x ∈ p2, x.block < W.heap.size := by obtain ⟨m, hm⟩ := k2; exact DataW.trod_lt m _ _ _ hm
  obtain ⟨b2, len2, cap2, rfl⟩ := okWide_slice Tryz.underlying22 (hval 2 22 v2 rfl rfl)
  obtain ⟨z2, g2⟩ : ∃ ls, InN 3 W (.slice b2 len2 cap2) ls := by
    obtain ⟨fuel, hf⟩ := h2
    refine inN_of (by decide) Tryz.underlying22 Tryz.underlying43 (by kernel_rfl) rfl ?_ hf
    intro j hj
    match j, hj with
    | 0, _ => exact ⟨_, rfl, rfl, Tryz.underlying3, by kernel_rfl⟩
    | 1, _ => exact ⟨_, rfl, rfl, Tryz.underlying3, by kernel_rfl⟩
    | 2, _ => exact ⟨_, rfl, rfl, Tryz.underlying2, by kernel_rfl⟩
  have k3 := h3
  have lt3 : ∀ x ∈ p3, x.block < W.heap.size := by obtain ⟨m, hm⟩ := k3; exact DataW.trod_lt m _ _ _ hm
  obtain ⟨b3, len3, cap3, rfl⟩ := okWide_slice Tryz.underlying23 (hval 3 23 v3 rfl rfl)
  obtain ⟨z3, g3⟩ : ∃ ls, InBo W (.slice b3 len3 cap3) ls := by
    obtain ⟨fuel, hf⟩ := h3
    exact inBo_of Tryz.underlying23 Tryz.underlying4 (by kernel_rfl) hf
  clear hA0 hval0
  refine (norecTwo_walk W a0 w0 _ z1 g1 _ z2 g2 _ z3 g3).mono fun e W' ⟨he, hkp⟩ => ?_
  subst he
  have bel := hkp.grownAll
  exact ⟨_, rfl, _, _, _, [], _, [], hW', trodAll_mk1 (shut_bool Tryz.underlying4 _), (trodAll_cons_mk (shut_int Tryz.underlying3 w0) (trodAll_cons_mk (Below.trod laidOut (by kernel_rfl) (of_decide_eq_true (by kernel_rfl)) k1 bel lt1) (trodAll_cons_mk (Below.trod laidOut (by kernel_rfl) (of_decide_eq_true (by kernel_rfl)) k2 bel lt2) (trodAll_cons_mk (Below.trod laidOut (by kernel_rfl) (of_decide_eq_true (by kernel_rfl)) k3 bel lt3) trodAll_mk0)))), rfl, bel.frame _, fun h => by cases h⟩

theorem over : Rows.norecTwoRow.holds Tryz.pinned (OpenSpec.ofChange Rows.norecTwoSpec) :=
  OpenClaim.holds_of_wide 3 Tryz.f3 rfl rfl rfl rfl rfl rfl rfl ⟨rfl, rfl, rfl, rfl, rfl⟩ rfl rfl rfl rfl rfl (by kernel_rfl) Tryz.func3 (by kernel_rfl)
    (of_decide_eq_true (by kernel_rfl)) (by unfold Func.isWrapper; first | (rw [if_pos (by decide +kernel)]; kernel_rfl) | (rw [if_neg (by decide +kernel)]; exact ⟨rfl, rfl⟩))
    (fun os started H enc _ => lifted os started H enc)

theorem proved : Rows.NorecTwoSaid := over
#print axioms proved
end Go.Proofs.YtlcmnhfiggkmnaaGreat.norecTwo
