/- RwAsks: for every input the law returns true, and each argument reads behind the call as it read before. No condition. -/
import Derived.Test.YtjchcmomppfilaaRows
import Derived.Test.YtjchcmomppfilaaIn
import Derived.Test.YtjchcmomppfilaaIn2
import Derived.Test.YtjchcmomppfilaaRwAsksW
import Derived.WalkKit
import Derived.ProofKit
import Derived.OpenShut
import Derived.ChangeOld
import Derived.Below
namespace Go.Proofs.Ytjchcmomppfilaa.rwAsks
open Go.ChangeShapes Go.WideShapes Go.ChangeAt Go.RowKit
set_option linter.unusedVariables false

theorem own : ownKnob Try.prog.godebug = none := by kernel_rfl
theorem laidOut : laidOutB Try.prog = true := by kernel_rfl

set_option maxRecDepth 100000 in
theorem lifted (os : Os) (started : os.Started) (H : Type) (enc : TypeId × Value → H) :
    ReturnsInHanded {} Try.checked os 11 .any (Rows.rwAsksSpec.pre6 enc Try.prog Try.f11 Rows.rwAsksRow.domain false) (Rows.rwAsksSpec.post enc Try.prog Try.f11 false true false false) := by
  refine returnsInHanded_of_change (C := Try.checked) own started (by kernel_rfl) Try.func11
    (ChangeSpec.witness6 (enc := enc) (C := Try.checked) false ⟨#[], #[.agg #[.int .i64 0, .int .i64 0, .int .i64 0, .int .i64 0, .int .i64 0, .int .i64 0], .agg #[.int .i64 0, .int .i64 0, .int .i64 0, .bool false, .int .i64 0], .bool false, .bool false], []⟩ 8 (by kernel_rfl) (by kernel_rfl) (by kernel_rfl) (by kernel_rfl)) ?_
  intro W base args ds gs before hval0 hW hcnd _
  have hval : ∀ (j : Nat) t v, Try.f11.params[j]? = some t → args[j]? = some v → Value.okWide Try.prog W .any base t v := hval0
  have hW' := hW
  obtain ⟨p, q, hA0, hV, rfl, hfz, hnd⟩ := hW
  have hA : DataW.TrodAll enc Try.prog W 0 (fun _ => true) true Try.f11.params.toList args.toList ds p := hA0
  rw [Try.params11] at hA hval
  obtain ⟨v0, vs0, d0, ds0, p0, q0, hargs, rfl, rfl, h0, r0⟩ := trodAll_cons hA
  obtain ⟨v1, vs1, d1, ds1, p1, q1, rfl, rfl, rfl, h1, r1⟩ := trodAll_cons r0
  obtain ⟨v2, vs2, d2, ds2, p2, q2, rfl, rfl, rfl, h2, r2⟩ := trodAll_cons r1
  obtain ⟨v3, vs3, d3, ds3, p3, q3, rfl, rfl, rfl, h3, r3⟩ := trodAll_cons r2
  obtain ⟨rfl, rfl, rfl⟩ := trodAll_nil r3
  obtain rfl : args = #[v0, v1, v2, v3] := by cases args; simp_all
  obtain ⟨rfl, rfl⟩ := trodVars_none hV
  have k0 := h0
  have lt0 : ∀ x ∈ p0, x.block < W.heap.size := by obtain ⟨m, hm⟩ := k0; exact DataW.trod_lt m _ _ _ hm
  obtain ⟨z0, e0, rfl, f0⟩ := inArr_of Try.underlying76 Try.underlying2 (by kernel_rfl) (by kernel_rfl) (hval 0 76 v0 rfl rfl) h0
  have k1 := h1
  have lt1 : ∀ x ∈ p1, x.block < W.heap.size := by obtain ⟨m, hm⟩ := k1; exact DataW.trod_lt m _ _ _ hm
  obtain ⟨cs1, rfl, sz1, fl1⟩ := str_field Try.underlying37 (hval 1 37 v1 rfl rfl) h1
  have sz1 : cs1.size = 5 := sz1
  obtain ⟨u1_0, m1_0, y1_0, e1_0, q1_0⟩ := fl1 0 _ rfl rfl (by kernel_rfl) (by omega)
  obtain ⟨b1_0, rfl, w1_0⟩ := fld_int Try.underlying3 q1_0
  obtain ⟨u1_1, m1_1, y1_1, e1_1, q1_1⟩ := fl1 1 _ rfl rfl (by kernel_rfl) (by omega)
  obtain ⟨b1_1, rfl, w1_1⟩ := fld_int Try.underlying3 q1_1
  obtain ⟨u1_2, m1_2, y1_2, e1_2, q1_2⟩ := fl1 2 _ rfl rfl (by kernel_rfl) (by omega)
  obtain ⟨b1_2, rfl, w1_2⟩ := fld_int Try.underlying3 q1_2
  obtain ⟨u1_3, m1_3, y1_3, e1_3, q1_3⟩ := fl1 3 _ rfl rfl (by kernel_rfl) (by omega)
  obtain ⟨b1_3, rfl⟩ := fld_bool Try.underlying4 q1_3
  obtain ⟨u1_4, m1_4, y1_4, e1_4, q1_4⟩ := fl1 4 _ rfl rfl (by kernel_rfl) (by omega)
  obtain ⟨b1_4, rfl, w1_4⟩ := fld_int Try.underlying2 q1_4
  obtain rfl := agg5_of sz1 e1_0 e1_1 e1_2 e1_3 e1_4
  obtain ⟨a2, rfl, rfl, rfl⟩ := open_bool Try.underlying4 (hval 2 4 v2 rfl rfl) h2
  obtain ⟨a3, rfl, rfl, rfl⟩ := open_bool Try.underlying4 (hval 3 4 v3 rfl rfl) h3
  clear hA0 hval0
  refine (rwAsks_walk W z0 e0 f0 b1_0 w1_0 b1_1 w1_1 b1_2 w1_2 b1_3 b1_4 w1_4 a2 a3).mono fun e W' ⟨he, hkp⟩ => ?_
  subst he
  have bel := hkp.grownAll
  exact ⟨_, rfl, _, _, _, [], _, [], hW', trodAll_mk1 (shut_bool Try.underlying4 _), (trodAll_cons_mk (Below.trod laidOut (by kernel_rfl) (of_decide_eq_true (by kernel_rfl)) k0 bel lt0) (trodAll_cons_mk (Below.trod laidOut (by kernel_rfl) (of_decide_eq_true (by kernel_rfl)) k1 bel lt1) (trodAll_cons_mk (shut_bool Try.underlying4 _) (trodAll_cons_mk (shut_bool Try.underlying4 _) trodAll_mk0)))), rfl, bel.frame _, fun h => by cases h⟩

theorem over : Rows.rwAsksRow.holds Try.pinned (OpenSpec.ofChange Rows.rwAsksSpec) :=
  OpenClaim.holds_of_wide 11 Try.f11 rfl rfl rfl rfl rfl rfl rfl ⟨rfl, rfl, rfl, rfl, rfl⟩ rfl rfl rfl rfl rfl (by kernel_rfl) Try.func11 (by kernel_rfl)
    (of_decide_eq_true (by kernel_rfl)) (by unfold Func.isWrapper; first | (rw [if_pos (by decide +kernel)]; kernel_rfl) | (rw [if_neg (by decide +kernel)]; exact ⟨rfl, rfl⟩))
    (fun os started H enc _ => lifted os started H enc)

theorem proved : Rows.RwAsksSaid := over
#print axioms proved
end Go.Proofs.Ytjchcmomppfilaa.rwAsks
