/- Readers do not wait for each other (the walk). -/
import Derived.Test.YtchgfdfdkcijnaaCrowdS
import Derived.Deep.LoopGhost
import Derived.Deep.DeepCutAuto
namespace Go.Proofs.Ytchgfdfdkcijnaa
open Go.RowKit
theorem mod4p (z : Int) : ∃ m : Nat, (1 : Int) + (IntKind.u64.wrap z).tmod 4 = (m : Int) ∧ 1 ≤ m ∧ m ≤ 4 := by
  obtain ⟨h1, h2⟩ := u64_tmod_bd z 4 (by omega)
  exact ⟨(1 + (IntKind.u64.wrap z).tmod 4).toNat, by omega, by omega, by omega⟩
theorem pickm (x : Int) (m : Nat) (h1 : 1 ≤ m) (h4 : m ≤ 4) : ∃ t : Nat, t < m ∧ (IntKind.u64.wrap x).tmod m = (t : Int) := by
  obtain ⟨h1, h2⟩ := u64_tmod_bd x m (by omega)
  exact ⟨((IntKind.u64.wrap x).tmod m).toNat, by omega, by omega⟩
set_option maxHeartbeats 40000000 in
set_option maxRecDepth 100000 in
theorem rwTogether_walk (w : World) (a0 : Int) (_w1 : (Lit.int .i64 a0).wf = true) (p0 : Value) (L : List Int) (f0 : InI w p0 L) (_f1 : ∀ k, k < L.length → (Lit.int .i64 (L.getD k 0)).wf = true) : Calls Try.prog 8 #[.int .i64 a0, p0] w fun e w' => e = .returned (.bool true) ∧ Keeps NoS w w' := by
  obtain ⟨p, cap, rfl, hn, hc, _⟩ := f0
  have HW := Lib.hid hc
  clear hc _f1 _w1
  by_cases hmax : L.length ≤ 100
  case neg =>
    go_enter Try.func8, Try.ntmps8
    have hmax' : (100 : Int) < (L.length : Int) := by omega
    go_wp2_with (go_at_call 37; refine (told10_any _).mono ?_; rintro e w1 ⟨rfl, hk1⟩)
    go_ret
    exact ⟨rfl, hk1⟩
  obtain ⟨m, hm, hm1, hm4⟩ := mod4p a0
  go_enter Try.func8, Try.ntmps8
  go_wp2_with (first
    | (go_at_call 13; refine (map8_any _).mono ?_; rintro e w1 ⟨rfl, hk1⟩))
  have hB := mapAt_new w1 2 2 4 0 2 25
  have hk1' := hk1.alloc (.cells #[.int .i64 2, .int .i64 2, .int .i64 4, .int .i64 0, .int .i64 2] 25)
  obtain ⟨B, hBe⟩ : ∃ B, w1.heap.size = B := ⟨_, rfl⟩
  rw [hBe] at hB
  rw [hBe]
  generalize w1.alloc (.cells #[.int .i64 2, .int .i64 2, .int .i64 4, .int .i64 0, .int .i64 2] 25) = W at *
  refine (both_any 2 2 4 0 2 48 m9_size (by decide) (by decide) W).mono ?_
  rintro e w2 ⟨a, c, v, u, rfl, hT⟩
  obtain ⟨w3, C, hw3, hC, hca, hco⟩ := ca_new hk1' hT hB
  have HCA := Lib.hid hca; have HO := Lib.hid hco; have HW3 := Lib.hid hw3; have HCe := Lib.hid hC
  clear hBe hk1 hk1' hT hB hw3 hC hca hco
  go_wp2_with fail
  rw [HW3.out]
  (try rw [HCe.out])
  clear HW3 HCe
  have hcell : ∀ wr, Keeps NoS w wr → (L ≠ [] → ∃ b off, p = some ⟨b, off, none⟩ ∧ ∀ j, j < L.length → wr.cell? ⟨b, off + j, none⟩ = some (.int .i64 (L.getD j 0))) := fun wr kk hp => by
    obtain ⟨b, off, rfl, hcs⟩ := HW.out hp
    exact ⟨b, off, rfl, fun j hj => kk.cell (hcs j hj) (fun f => f)⟩
  have HCE := Lib.hid hcell
  clear hcell HW
  obtain ⟨n0, dn0, Q0, A0, hrd0⟩ := RdS.start (m := m) (M0 48) (M0_len 48) M0_word hm1 hm4
  have HR0 := Lib.hid hrd0
  clear hrd0
  go_loopg [10] (L.length + 200) (fun g iv wq => ∃ (i : Nat) (M : MemS) (f : Nat → HandS) (o : Nat → Bool) (c n : Nat → Nat) (dn Q : List Nat) (A : QA), i + g = L.length + 200 ∧ iv = .int .i64 i ∧ CA w wq a v B C M f o c ∧ RdS m M n dn Q A f o ∧ (∀ j, j < 4 → c j ≤ i) ∧ (L.length ≤ i → DueT m M n Q A f i (i - L.length)))
  case atStart => exact ⟨0, _, _, _, _, n0, dn0, Q0, A0, by omega, rfl, HCA.out, HR0.out, fun _ _ => Nat.le_refl _, fun h => by rw [show 0 - L.length = 0 by omega]; exact DueT.start HR0.out hm1 hm4 0⟩
  case round =>
    obtain ⟨i, M, f, o, c, n, dn, Q, A, hig, rfl, hx, hs, hna, hdue⟩ := hrel
    have HX := Lib.hid hx; have HS := Lib.hid hs; have HD := Lib.hid hdue; have HNA := Lib.hid hna
    clear hx hs hdue HCA hna HR0
    by_cases hlt : i < L.length + 200
    · have i0 : (0 : Int) ≤ (i : Int) := by omega
      have i1 : (i : Int) < (L.length : Int) + 200 := by omega
      have i2 : (i : Int) < 600 := by omega
      obtain ⟨im, him⟩ : ∃ im : Nat, i % m = im := ⟨_, rfl⟩
      have him2 : (i : Int) % (m : Int) = (im : Int) := by rw [← him]; simp
      have HIM := Lib.hid him
      clear him
      go_upto_if 44 with fail
      go_cut [11] (fun tv wx => ∃ t : Nat, t < m ∧ tv = .int .i64 t ∧ wx = wr ∧ (L.length ≤ i → i % m = t))
      case first =>
        by_cases hll : i < L.length
        · obtain ⟨b, off, rfl, hcs⟩ := HCE.out wr HX.out.kp (fun e => by rw [e] at hll; simp at hll)
          have cn := hcs i hll
          clear hcs
          generalize L.getD i 0 = z at cn
          obtain ⟨t, ht, hz⟩ := pickm z m hm1 hm4
          have ht1 : (0 : Int) ≤ (t : Int) := by omega
          have ht2 : (t : Int) < (m : Int) := by omega
          go_wp2_with fail
          go_meet
          exact ⟨t, ht, rfl, rfl, fun h => by omega⟩
        · go_wp2_with fail
          go_meet
          exact ⟨im, by have := HIM.out; rw [← this]; exact Nat.mod_lt _ (by omega), by rw [him2], rfl, fun _ => HIM.out⟩
      case rest =>
        obtain ⟨t, ht', rfl, rfl, hti⟩ := hcut
        have ht : t < 4 := by omega
        have HTI := Lib.hid hti
        clear hti him2 HIM
        have ht1 : (0 : Int) ≤ (t : Int) := by omega
        have ht2 : (t : Int) < 4 := by omega
        obtain ⟨m0, m1', m2, m3, m4'⟩ := mapCs HX.out.mp
        have HL := Lib.hid HS.out.s.py.v.len
        have HOI := Lib.hid HS.out.o
        have HNB := Lib.hid (show c t < 1000000 by have := HNA.out t ht; omega)
        go_wp2_with (go_at_call 38; refine (step10_any C a v M f o c t ht true false _ HX.out.cr HX.out.hm HL.out HO.out.nc (HOI.out.so2 ht) HNB.out).mono ?_; rintro e w5 ⟨rfl, hm5, hc5, hk5⟩; have hX5 := HX.out.step HO.out hm5 hc5 hk5; clear hm5 hc5 hk5)
        obtain ⟨n', dn', Q', A', hs', hdd⟩ := HS.out.step ht' hm1 hm4
        have hna' := cN_le HNA.out M f o t true false
        have HX5 := Lib.hid hX5; have HS' := Lib.hid hs'; have HDD := Lib.hid hdd; have HNA' := Lib.hid hna'
        clear hX5 hs' hdd hna'
        go_roundg (L.length + 200 - i - 1)
        case measure => omega
        case rel => exact ⟨i + 1, _, _, _, _, n', dn', Q', A', by omega, by go_num, HX5.out, HS'.out, HNA'.out, fun h => by
          by_cases e : L.length ≤ i
          · have hw := HDD.out i (i - L.length) (HTI.out e) (HD.out e)
            rwa [show i - L.length + 1 = i + 1 - L.length by omega] at hw
          · rw [show i + 1 - L.length = 0 by omega]; exact DueT.start HS'.out hm1 hm4 (i + 1)⟩
    · obtain rfl : i = L.length + 200 := by omega
      have he := HD.out (by omega)
      rw [show L.length + 200 - L.length = 200 by omega] at he
      obtain ⟨e1, e2, e3⟩ := HS.out.ended hm1 hm4 (he.ended HS.out hm1)
      have hh := held10_any C f o c wr HX.out.cr
      rw [e1, e2] at hh
      have HH := Lib.hid hh; have HW7 := Lib.hid e3
      have HML := Lib.hid HS.out.s.py.v.len
      clear he hh e1 e2 e3 HD
      go_wp2_with (first
        | (go_at_call 39; refine HH.out.mono ?_; rintro e w4 ⟨rfl, hk4⟩; have HX4 := Lib.hid (HX.out.no hk4); obtain ⟨m0, m1', m2, m3, m4'⟩ := mapCs HX4.out.mp)
        | (go_at_call 37; refine (told10_any _).mono ?_; rintro e w5 ⟨rfl, hk5⟩; have HX5 := Lib.hid (HX4.out.no hk5); obtain ⟨n0, n1, n2, n3, n4⟩ := mapCs HX5.out.mp)
        | (go_at_call 40; refine (inside8_any 0 (by decide) a v M _ HX5.out.hm HML.out).mono ?_; rw [HW7.out]; rintro e w6 ⟨rfl, hk6⟩; have HX6 := Lib.hid (HX5.out.no hk6)))
      go_ret
      exact ⟨rfl, HX6.out.kp⟩
end Go.Proofs.Ytchgfdfdkcijnaa
