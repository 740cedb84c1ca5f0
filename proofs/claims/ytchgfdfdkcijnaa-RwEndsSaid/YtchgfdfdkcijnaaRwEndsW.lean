/- All that come have it in the end, and leave nothing behind (the walk). -/
import Derived.Test.YtchgfdfdkcijnaaCrowdS
import Derived.Deep.LoopGhost
import Derived.Deep.DeepCutAuto
namespace Go.Proofs.Ytchgfdfdkcijnaa
open Go.RowKit
set_option maxHeartbeats 40000000 in
set_option maxRecDepth 100000 in
theorem rwEnds_walk (w : World) (p0 : Value) (L : List Int) (f0 : InI w p0 L) (_f1 : ∀ k, k < L.length → (Lit.int .i64 (L.getD k 0)).wf = true) (rdr : Int) (_w1 : (Lit.int .i64 rdr).wf = true) : Calls Try.prog 9 #[p0, .int .i64 rdr] w fun e w' => e = .returned (.bool true) ∧ Keeps NoS w w' := by
  obtain ⟨p, cap, rfl, hn, hc, _⟩ := f0
  have HW := Lib.hid hc
  clear hc _f1 _w1
  by_cases hmax : L.length ≤ 200
  case neg =>
    go_enter Try.func9, Try.ntmps9
    have hmax' : (200 : Int) < (L.length : Int) := by omega
    go_wp2_with (go_at_call 37; refine (told10_any _).mono ?_; rintro e w1 ⟨rfl, hk1⟩)
    go_ret
    exact ⟨rfl, hk1⟩

  go_enter Try.func9, Try.ntmps9
  go_wp2_with (first
    | (go_at_call 13; refine (map8_any _).mono ?_; rintro e w1 ⟨rfl, hk1⟩))
  have hB := mapAt_new w1 2 2 4 0 2 25
  have hk1' := hk1.alloc (.cells #[.int .i64 2, .int .i64 2, .int .i64 4, .int .i64 0, .int .i64 2] 25)
  obtain ⟨B, hBe⟩ : ∃ B, w1.heap.size = B := ⟨_, rfl⟩
  rw [hBe] at hB
  rw [hBe]
  generalize w1.alloc (.cells #[.int .i64 2, .int .i64 2, .int .i64 4, .int .i64 0, .int .i64 2] 25) = W at *
  refine (both_any 2 2 4 0 2 48 m9_size (by decide) (by decide) W).mono ?_
  rintro e w2 ⟨a, c, v, u, rfl, hT⟩
  obtain ⟨w3, C, hw3, hC, hca, hco⟩ := ca_new hk1' hT hB
  have HCA := Lib.hid hca; have HO := Lib.hid hco; have HW3 := Lib.hid hw3; have HCe := Lib.hid hC
  clear hBe hk1 hk1' hT hB hw3 hC hca hco
  go_wp2_with fail
  rw [HW3.out]
  (try rw [HCe.out])
  clear HW3 HCe
  have hcell : ∀ wr, Keeps NoS w wr → (L ≠ [] → ∃ b off, p = some ⟨b, off, none⟩ ∧ ∀ j, j < L.length → wr.cell? ⟨b, off + j, none⟩ = some (.int .i64 (L.getD j 0))) := fun wr kk hp => by
    obtain ⟨b, off, rfl, hcs⟩ := HW.out hp
    exact ⟨b, off, rfl, fun j hj => kk.cell (hcs j hj) (fun f => f)⟩
  have HCE := Lib.hid hcell
  clear hcell HW
  go_loopg [9] (L.length + 400) (fun g iv wq => ∃ (i : Nat) (M : MemS) (f : Nat → HandS) (o : Nat → Bool) (c n : Nat → Nat) (dn Q : List Nat) (A : QA), i + g = L.length + 400 ∧ iv = .int .i64 i ∧ CA w wq a v B C M f o c ∧ EnS M n dn Q A f o c ∧ (L.length ≤ i → DueE M n Q A f i (i - L.length)))
  case atStart => exact ⟨0, _, _, _, _, _, [], [], _, by omega, rfl, HCA.out, EnS.start _ (M0_len 48) M0_word, fun h => by rw [show 0 - L.length = 0 by omega]; exact DueE.start (EnS.start _ (M0_len 48) M0_word).s (EnS.start _ (M0_len 48) M0_word).ni 0⟩
  case round =>
    obtain ⟨i, M, f, o, c, n, dn, Q, A, hig, rfl, hx, hs, hdue⟩ := hrel
    have HX := Lib.hid hx; have HS := Lib.hid hs; have HD := Lib.hid hdue
    clear hx hs hdue HCA
    by_cases hlt : i < L.length + 400
    · have i0 : (0 : Int) ≤ (i : Int) := by omega
      have i1 : (i : Int) < (L.length : Int) + 400 := by omega
      have i2 : (i : Int) < 600 := by omega
      obtain ⟨im, him⟩ : ∃ im : Nat, i % 4 = im := ⟨_, rfl⟩
      have him2 : (i : Int) % 4 = (im : Int) := by rw [← him]; simp
      have HIM := Lib.hid him
      clear him
      go_upto_if 36 with fail
      go_cut [10] (fun tv wx => ∃ t : Nat, t < 4 ∧ tv = .int .i64 t ∧ wx = wr ∧ (L.length ≤ i → i % 4 = t))
      case first =>
        by_cases hll : i < L.length
        · obtain ⟨b, off, rfl, hcs⟩ := HCE.out wr HX.out.kp (fun e => by rw [e] at hll; simp at hll)
          have cn := hcs i hll
          clear hcs
          generalize L.getD i 0 = z at cn
          obtain ⟨t, ht, hz⟩ := pick4 z
          have ht1 : (0 : Int) ≤ (t : Int) := by omega
          have ht2 : (t : Int) < 4 := by omega
          go_wp2_with fail
          go_meet
          exact ⟨t, ht, rfl, rfl, fun h => by omega⟩
        · go_wp2_with fail
          go_meet
          exact ⟨im, by have := HIM.out; omega, by rw [him2], rfl, fun _ => HIM.out⟩
      case rest =>
        obtain ⟨t, ht', rfl, rfl, hti⟩ := hcut
        have ht : t < 4 := by omega
        have HTI := Lib.hid hti
        clear hti him2 HIM
        have ht1 : (0 : Int) ≤ (t : Int) := by omega
        have ht2 : (t : Int) < 4 := by omega
        obtain ⟨m0, m1', m2, m3, m4'⟩ := mapCs HX.out.mp
        have HL := Lib.hid HS.out.s.py.v.len
        have HOI := Lib.hid HS.out.o
        obtain ⟨ct, hct⟩ : ∃ z, c t = z := ⟨_, rfl⟩
        have n1 := HX.out.cr.nu ht
        have n2 := HX.out.cr.lt
        rw [hct] at n1
        have HCT := Lib.hid hct
        clear hct
        by_cases h2 : ct < 2
        · have HNB := Lib.hid (show c t < 1000000 by rw [HCT.out]; omega)
          have c1 : (0 : Int) ≤ (ct : Int) := by omega
          have c2 : (ct : Int) < 2 := by omega
          go_upto_region 15 with fail
          go_wp2_with (go_at_call 38; generalize (bits BinOp.and IntKind.u64 (IntKind.u64.wrap rdr / 2 ^ t) 1 == 1) = rd; refine (step10_any C a v M f o c t ht rd true _ HX.out.cr HX.out.hm HL.out HO.out.nc (HOI.out.so2 ht) HNB.out).mono ?_; rintro e w5 ⟨rfl, hm5, hc5, hk5⟩; have hX5 := HX.out.step HO.out hm5 hc5 hk5; clear hm5 hc5 hk5)
          obtain ⟨n', dn', Q', A', hs', hdd⟩ := HS.out.step ht (by rw [HCT.out]; exact h2) rd
          have HX5 := Lib.hid hX5; have HS' := Lib.hid hs'; have HDD := Lib.hid hdd
          clear hX5 hs' hdd
          go_roundg (L.length + 400 - i - 1)
          case measure => omega
          case rel => exact ⟨i + 1, _, _, _, _, n', dn', Q', A', by omega, by go_num, HX5.out, HS'.out, fun h => by
            by_cases e : L.length ≤ i
            · have hw := HDD.out i (i - L.length) (HTI.out e) (HD.out e)
              rwa [show i - L.length + 1 = i + 1 - L.length by omega] at hw
            · rw [show i + 1 - L.length = 0 by omega]; exact DueE.start HS'.out.s HS'.out.ni (i + 1)⟩
        · have h2' : decide ((ct : Int) < 2) = false := decide_eq_false (by omega)
          go_wp2_with fail
          go_roundg (L.length + 400 - i - 1)
          case measure => omega
          case rel => exact ⟨i + 1, M, f, o, c, n, dn, Q, A, by omega, by go_num, HX.out, HS.out, fun h => by
            by_cases e : L.length ≤ i
            · have hw := (HD.out e).wait HS.out.s ht (HTI.out e) (by rw [HCT.out]; exact h2) HS.out.ni
              rwa [show i - L.length + 1 = i + 1 - L.length by omega] at hw
            · rw [show i + 1 - L.length = 0 by omega]; exact DueE.start HS.out.s HS.out.ni (i + 1)⟩
    · obtain rfl : i = L.length + 400 := by omega
      have he := HD.out (by omega)
      rw [show L.length + 400 - L.length = 400 by omega] at he
      obtain ⟨hc2, hw7, hw4⟩ := he.ended HS.out.s HS.out.ni
      have HC2 := Lib.hid hc2; have HW7 := Lib.hid hw7; have HW4 := Lib.hid hw4
      have HML := Lib.hid HS.out.s.py.v.len
      clear he hc2 hw7 hw4 HD
      go_wp2_with fail
      go_loopw [11] (fun kv wq => ∃ j : Nat, j ≤ 4 ∧ kv = .int .i64 j ∧ Keeps NoS wr wq) (fun kv _ => 4 - (intOf kv).toNat)
      case atStart => exact ⟨0, by omega, rfl, Keeps.refl _ _⟩
      case round =>
        obtain ⟨j, hj, rfl, hkq⟩ := hrel
        have HXQ := Lib.hid (HX.out.no hkq)
        have HKQ := Lib.hid hkq
        clear hkq
        by_cases hlt2 : j < 4
        · have j0 : (0 : Int) ≤ (j : Int) := by omega
          have j1 : (j : Int) < 4 := by omega
          have n1 := HXQ.out.cr.nu hlt2
          have n2 := HXQ.out.cr.lt
          rw [HC2.out j hlt2] at n1
          go_wp2_with fail
          go_roundw
          case rel => exact ⟨j + 1, by omega, by go_num, HKQ.out⟩
          case measure => simp [intOf]; omega
        · obtain rfl : j = 4 := by omega
          obtain ⟨m0, m1, m2, m3, m4⟩ := mapCs HXQ.out.mp
          have HLT := Lib.hid (show tlA 0 < M.L.length by rw [HML.out]; decide)
          have HLK := Lib.hid (show lockP ⟨2, 2, 4, 0, 2⟩ 0 0 = (tlA 0 : Nat) from tlA_eq (l := 0) (by decide))
          go_wp2_with (first
            | (go_at_call 37; refine (told10_any _).mono ?_; rintro e w5 ⟨rfl, hk5⟩; have HX5 := Lib.hid (HXQ.out.no hk5); obtain ⟨n0, n1, n2, n3, n4⟩ := mapCs HX5.out.mp)
            | (go_at_call 40; refine (inside8_any 0 (by decide) a v M _ HX5.out.hm HML.out).mono ?_; rw [HW7.out]; rintro e w6 ⟨rfl, hk6⟩; have HX6 := Lib.hid (HX5.out.no hk6); obtain ⟨q0, q1, q2, q3, q4⟩ := mapCs HX6.out.mp)
            | (go_at_call 21; refine (lock_lit 2 2 4 0 2 0 0 _ HLK.out _).mono ?_; rintro e w7 ⟨rfl, hk7⟩; have HX7 := Lib.hid (HX6.out.no hk7))
            | (go_at_call 20; refine (peek_at a v M (tlA 0) _ HX7.out.hm HLT.out).mono ?_; rw [HW4.out]; rintro e w8 ⟨rfl, rfl⟩))
          go_ret
          exact ⟨rfl, HX7.out.kp⟩
end Go.Proofs.Ytchgfdfdkcijnaa
