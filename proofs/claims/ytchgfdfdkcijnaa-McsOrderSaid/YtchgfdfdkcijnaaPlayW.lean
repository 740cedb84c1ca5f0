/- Four hands play at a lock: what comes of it (the walk). -/
import Derived.Test.YtchgfdfdkcijnaaPlayS
import Derived.Deep.LoopGhost
import Derived.Deep.DeepCutAuto
namespace Go.Proofs.Ytchgfdfdkcijnaa
open Go.RowKit
theorem infoI : (Try.prog.info? 3).map (fun i => (i.zero, i.size, i.bytes)) = some (some (.int .i64 0), 1, 8) := by kernel_rfl
theorem intT : ∃ i, IntT 3 22 i := by
  obtain ⟨i, h1, h2, h3, h4⟩ := info_parts infoI
  exact ⟨i, by kernel_rfl, h1, h2, h3, h4⟩
theorem hput_up (t : Nat) (ht : t < 4) : ∀ k, k < 4 → hput (fun k => if k < t then (⟨k, 0, 0, false, 0⟩ : HandS) else hand0) t ⟨t, 0, 0, false, 0⟩ k = if k < t + 1 then (⟨k, 0, 0, false, 0⟩ : HandS) else hand0 := by
  intro k hk
  unfold hput
  by_cases e : k = t
  · subst e; simp
  · by_cases e2 : k < t
    · simp only [if_neg e, if_pos e2, if_pos (show k < t + 1 by omega)]
    · simp only [if_neg e, if_neg e2, if_neg (show ¬ k < t + 1 by omega)]
theorem pick4 (x : Int) : ∃ t : Nat, t < 4 ∧ (IntKind.u64.wrap x).tmod 4 = (t : Int) := by
  obtain ⟨h1, h2⟩ := u64_tmod_bd x 4 (by omega)
  exact ⟨((IntKind.u64.wrap x).tmod 4).toNat, by omega, by omega⟩
theorem PW.congr {w wr : World} {a B H N O : Nat} {v v1 v2 : Value} {M : MemS} {f g : Nat → HandS} {n : Nat → Nat} {o : Nat → Bool} {l1 l2 : List Nat} (h : PW w wr a v B H N O M f n o v1 v2 l1 l2) (e : ∀ t, t < 4 → f t = g t) : PW w wr a v B H N O M g n o v1 v2 l1 l2 :=
  ⟨h.hm, h.kp, h.mp, h.hx.congr e, h.hn, h.ho, h.r1, h.r2, h.ap⟩
theorem pw_new {w : World} {a : Nat} {v : Value} {M : MemS} (hA : MemAt w a v M) : ∃ W, ((((w.alloc (.cells #[.int .i64 2, .int .i64 2, .int .i64 4, .int .i64 0, .int .i64 2] 25)).alloc (.cells #[.int .i64 0, .int .i64 0, .int .i64 0, .bool false, .int .i64 0, .int .i64 0, .int .i64 0, .int .i64 0, .bool false, .int .i64 0, .int .i64 0, .int .i64 0, .int .i64 0, .bool false, .int .i64 0, .int .i64 0, .int .i64 0, .int .i64 0, .bool false, .int .i64 0] 33)).alloc (.cells #[.int .i64 0, .int .i64 0, .int .i64 0, .int .i64 0] 64)).alloc (.cells #[.bool false, .bool false, .bool false, .bool false] 63)) = W ∧ PW w W a v w.heap.size (w.heap.size + 1) (w.heap.size + 1 + 1) (w.heap.size + 1 + 1 + 1) M (fun _ => hand0) (fun _ => 0) (fun _ => false) (.slice none 0 0) (.slice none 0 0) [] [] ∧ Ord4 w a v w.heap.size (w.heap.size + 1) (w.heap.size + 1 + 1) (w.heap.size + 1 + 1 + 1) := by
  have k1 := (Keeps.refl NoS w).alloc (.cells #[.int .i64 2, .int .i64 2, .int .i64 4, .int .i64 0, .int .i64 2] 25)
  have k2 := (Keeps.refl NoS (w.alloc (.cells #[.int .i64 2, .int .i64 2, .int .i64 4, .int .i64 0, .int .i64 2] 25))).alloc (.cells #[.int .i64 0, .int .i64 0, .int .i64 0, .bool false, .int .i64 0, .int .i64 0, .int .i64 0, .int .i64 0, .bool false, .int .i64 0, .int .i64 0, .int .i64 0, .int .i64 0, .bool false, .int .i64 0, .int .i64 0, .int .i64 0, .int .i64 0, .bool false, .int .i64 0] 33)
  have k3 := (Keeps.refl NoS ((w.alloc (.cells #[.int .i64 2, .int .i64 2, .int .i64 4, .int .i64 0, .int .i64 2] 25)).alloc (.cells #[.int .i64 0, .int .i64 0, .int .i64 0, .bool false, .int .i64 0, .int .i64 0, .int .i64 0, .int .i64 0, .bool false, .int .i64 0, .int .i64 0, .int .i64 0, .int .i64 0, .bool false, .int .i64 0, .int .i64 0, .int .i64 0, .int .i64 0, .bool false, .int .i64 0] 33))).alloc (.cells #[.int .i64 0, .int .i64 0, .int .i64 0, .int .i64 0] 64)
  have k4 := (Keeps.refl NoS (((w.alloc (.cells #[.int .i64 2, .int .i64 2, .int .i64 4, .int .i64 0, .int .i64 2] 25)).alloc (.cells #[.int .i64 0, .int .i64 0, .int .i64 0, .bool false, .int .i64 0, .int .i64 0, .int .i64 0, .int .i64 0, .bool false, .int .i64 0, .int .i64 0, .int .i64 0, .int .i64 0, .bool false, .int .i64 0, .int .i64 0, .int .i64 0, .int .i64 0, .bool false, .int .i64 0] 33)).alloc (.cells #[.int .i64 0, .int .i64 0, .int .i64 0, .int .i64 0] 64))).alloc (.cells #[.bool false, .bool false, .bool false, .bool false] 63)
  have b1 := mapAt_new w 2 2 4 0 2 25
  have b2 := handsAt_new (w.alloc (.cells #[.int .i64 2, .int .i64 2, .int .i64 4, .int .i64 0, .int .i64 2] 25)) 33
  have b3 := numsAt_new ((w.alloc (.cells #[.int .i64 2, .int .i64 2, .int .i64 4, .int .i64 0, .int .i64 2] 25)).alloc (.cells #[.int .i64 0, .int .i64 0, .int .i64 0, .bool false, .int .i64 0, .int .i64 0, .int .i64 0, .int .i64 0, .bool false, .int .i64 0, .int .i64 0, .int .i64 0, .int .i64 0, .bool false, .int .i64 0, .int .i64 0, .int .i64 0, .int .i64 0, .bool false, .int .i64 0] 33)) 64
  have b4 := boolsAt_new (((w.alloc (.cells #[.int .i64 2, .int .i64 2, .int .i64 4, .int .i64 0, .int .i64 2] 25)).alloc (.cells #[.int .i64 0, .int .i64 0, .int .i64 0, .bool false, .int .i64 0, .int .i64 0, .int .i64 0, .int .i64 0, .bool false, .int .i64 0, .int .i64 0, .int .i64 0, .int .i64 0, .bool false, .int .i64 0, .int .i64 0, .int .i64 0, .int .i64 0, .bool false, .int .i64 0] 33)).alloc (.cells #[.int .i64 0, .int .i64 0, .int .i64 0, .int .i64 0] 64)) 63
  have e2 : (w.alloc (.cells #[.int .i64 2, .int .i64 2, .int .i64 4, .int .i64 0, .int .i64 2] 25)).heap.size = w.heap.size + 1 := by simp
  have e3 : ((w.alloc (.cells #[.int .i64 2, .int .i64 2, .int .i64 4, .int .i64 0, .int .i64 2] 25)).alloc (.cells #[.int .i64 0, .int .i64 0, .int .i64 0, .bool false, .int .i64 0, .int .i64 0, .int .i64 0, .int .i64 0, .bool false, .int .i64 0, .int .i64 0, .int .i64 0, .int .i64 0, .bool false, .int .i64 0, .int .i64 0, .int .i64 0, .int .i64 0, .bool false, .int .i64 0] 33)).heap.size = w.heap.size + 1 + 1 := by simp
  have e4 : (((w.alloc (.cells #[.int .i64 2, .int .i64 2, .int .i64 4, .int .i64 0, .int .i64 2] 25)).alloc (.cells #[.int .i64 0, .int .i64 0, .int .i64 0, .bool false, .int .i64 0, .int .i64 0, .int .i64 0, .int .i64 0, .bool false, .int .i64 0, .int .i64 0, .int .i64 0, .int .i64 0, .bool false, .int .i64 0, .int .i64 0, .int .i64 0, .int .i64 0, .bool false, .int .i64 0] 33)).alloc (.cells #[.int .i64 0, .int .i64 0, .int .i64 0, .int .i64 0] 64)).heap.size = w.heap.size + 1 + 1 + 1 := by simp
  rw [e2] at b2; rw [e3] at b3; rw [e4] at b4
  have k14 := ((k1.trans k2).trans k3).trans k4
  exact ⟨_, rfl, ⟨hA.keep k14 (fun f => f) (fun _ _ f => f), k14.no, ((b1.keep k2 (fun f => f)).keep k3 (fun f => f)).keep k4 (fun f => f), (b2.keep k3 (fun f => f)).keep k4 (fun f => f), b3.keep k4 (fun f => f), b4, RowI.nil _ _ _, RowI.nil _ _ _, fun g hg => by simp [Value.ownBlock] at hg⟩,
    ⟨fun i hi => hi.elim (fun e => e ▸ blk_lt hA.hd) (fun e => hA.own_lt e), Nat.le_refl _, by omega, by omega, by omega⟩⟩
set_option maxHeartbeats 40000000 in
set_option maxRecDepth 100000 in
theorem play_any (w : World) (a : Nat) (v : Value) (M0' : MemS) (p : Value) (L : List Int) (k : Nat) (hA : MemAt w a v M0') (f0 : InI w p L) (h200 : L.length ≤ 200) (hk1 : 1 ≤ k) (hk3 : k ≤ 3) (hl48 : M0'.L.length = 48) (hz : ∀ i, M0'.word i = 0) (hs0 : M0'.st = 0)
    (hlow : L ≠ [] → ∀ g, p.ownBlock = some g → ¬ own2m a v g) :
    Calls Try.prog 18 #[.pointer (some ⟨a, 0, none⟩), .agg #[.int .i64 2, .int .i64 2, .int .i64 4, .int .i64 0, .int .i64 2], p, .int .i64 k] w fun e w' => ∃ (v1 v2 : Value) (dn : List Nat) (M : MemS) (lo : Nat), e = .returned (.tuple #[v1, v2, .bool true]) ∧ MemAt w' a v M ∧ Keeps (own2m a v) w w' ∧ M.L.length = 48 ∧ M.word (tlA 0) = 0 ∧ dn.length = 4 * k ∧
      RowI 3 w' lo v1 (natsI dn) ∧ RowI 3 w' lo v2 (natsI dn) := by
  obtain ⟨ps, cap, rfl, hn, hc, _⟩ := f0
  obtain ⟨W, hW, hP, hO⟩ := pw_new hA
  have HC := Lib.hid hc; have HO := Lib.hid hO; have HP := Lib.hid hP; have HWE := Lib.hid hW; have HLO := Lib.hid hlow
  have hps := PyS.start k M0' hl48 hz
  have HPS := Lib.hid hps; have HS0 := Lib.hid hs0
  obtain ⟨iT, hIT⟩ := intT
  have HIT := Lib.hid hIT
  obtain ⟨B, hB⟩ : ∃ B, w.heap.size = B := ⟨_, rfl⟩
  rw [hB] at HP HO
  have HBE := Lib.hid hB
  clear hc hO hP hW hlow hps hs0 hIT hA hl48 hz hn hB
  go_enter Try.func18, Try.ntmps18
  go_wp2_with fail
  (try rw [HWE.out])
  (try rw [HBE.out])
  obtain ⟨H, hH⟩ : ∃ H, B + 1 = H := ⟨_, rfl⟩
  obtain ⟨N, hN⟩ : ∃ N, B + 1 + 1 = N := ⟨_, rfl⟩
  obtain ⟨O, hOO⟩ : ∃ O, B + 1 + 1 + 1 = O := ⟨_, rfl⟩
  rw [hOO, hN, hH] at HP HO
  (try rw [hOO])
  (try rw [hN])
  (try rw [hH])
  clear hH hN hOO HBE HWE
  have hcell : ∀ wr, Keeps (own2m a v) w wr → (L ≠ [] → ∃ b off, ps = some ⟨b, off, none⟩ ∧ ∀ j, j < L.length → wr.cell? ⟨b, off + j, none⟩ = some (.int .i64 (L.getD j 0))) := fun wr kk hp => by
    obtain ⟨b, off, rfl, hcs⟩ := HC.out hp
    exact ⟨b, off, rfl, fun j hj => kk.cell (hcs j hj) (HLO.out hp b rfl)⟩
  have HCE := Lib.hid hcell
  clear hcell HC HLO
  go_loopw [16] (fun i wr => ∃ t : Nat, t ≤ 4 ∧ i = .int .i64 t ∧ PW w wr a v B H N O M0' (fun k => if k < t then ⟨k, 0, 0, false, 0⟩ else hand0) (fun _ => 0) (fun _ => false) (.slice none 0 0) (.slice none 0 0) [] []) (fun i _ => 4 - (intOf i).toNat)
  case atStart => exact ⟨0, by omega, rfl, by simpa using HP.out⟩
  case round =>
    obtain ⟨t, ht, rfl, hr⟩ := hrel
    have HX := Lib.hid hr
    clear hr HP
    by_cases h4 : t < 4
    · have hxl := HX.out.hx.lt
      have t0 : (0 : Int) ≤ (t : Int) := by omega
      have t4 : (t : Int) < 4 := by omega
      obtain ⟨x0, x1, x2, x3, x4⟩ := HX.out.hx.cell t h4
      obtain ⟨f0, f1, f2, f3, f4⟩ := HX.out.hx.frees t
      have hp := HX.out.hand HO.out h4 ⟨t, 0, 0, false, 0⟩
      unfold setH at hp
      dsimp only at hp
      have HF := Lib.hid (hp.congr (hput_up t h4))
      clear hp HX
      go_wp2_with fail
      go_roundw
      case rel => exact ⟨t + 1, by omega, by go_num, HF.out⟩
      case measure => simp [intOf]; omega
    · have hr4 := HX.out.congr (g := fun k => ⟨k, 0, 0, false, 0⟩) (fun k hk => by simp only [if_pos (show k < t by omega)])
      have HR4 := Lib.hid hr4
      clear HX hr4
      go_wp2_with fail
      go_loopg [14, 15, 17] (L.length + 400) (fun g s1 s2 iv wq => ∃ (i : Nat) (M : MemS) (f : Nat → HandS) (n : Nat → Nat) (o : Nat → Bool) (dn Q : List Nat) (A : QA), i + g = L.length + 400 ∧ iv = .int .i64 i ∧ PW w wq a v B H N O M f n o s1 s2 (dn ++ Q) (hadQ A dn Q) ∧ PyS k M n dn Q A ∧ FO f o A ∧ 0 ≤ M.st ∧ M.st ≤ i ∧ (L.length ≤ i → Due A n k Q i (i - L.length)))
      case atStart => exact ⟨0, M0', _, _, _, [], [], ⟨0, fun _ => 0, fun _ => 0, fun _ => 0, fun _ => 0⟩, by omega, rfl, HR4.out, HPS.out, fun t ht => ⟨rfl, by simp [isOut]⟩, by rw [HS0.out]; omega, by rw [HS0.out]; omega, fun h => by rw [show 0 - L.length = 0 by omega]; exact Due.start HPS.out hk3 0⟩
      case round =>
        obtain ⟨i, M, f, n, o, dn, Q, A, hig, rfl, hp, hy, hf, hst0, hst1, hdue⟩ := hrel
        have HX := Lib.hid hp; have HY := Lib.hid hy; have HF := Lib.hid hf; have HD := Lib.hid hdue; have HST := Lib.hid (And.intro hst0 hst1)
        clear hp hy hf hdue HR4 HPS hst0 hst1
        by_cases hlt : i < L.length + 400
        · have i0 : (0 : Int) ≤ (i : Int) := by omega
          have i1 : (i : Int) < (L.length : Int) + 400 := by omega
          have i2 : (i : Int) < 600 := by omega
          obtain ⟨im, him⟩ : ∃ im : Nat, i % 4 = im := ⟨_, rfl⟩
          have him2 : (i : Int) % 4 = (im : Int) := by omega
          have HIM := Lib.hid him
          clear him
          go_upto_if 43 with fail
          go_cut [18] (fun tv wx => ∃ t : Nat, t < 4 ∧ tv = .int .i64 t ∧ wx = wr ∧ (L.length ≤ i → i % 4 = t))
          case first =>
            by_cases hll : i < L.length
            · obtain ⟨b, off, rfl, hcs⟩ := HCE.out wr HX.out.kp (fun e => by rw [e] at hll; simp at hll)
              have cn := hcs i hll
              clear hcs
              generalize L.getD i 0 = z at cn
              obtain ⟨t, ht, hz⟩ := pick4 z
              have ht1 : (0 : Int) ≤ (t : Int) := by omega
              have ht2 : (t : Int) < 4 := by omega
              go_wp2_with fail
              go_meet
              exact ⟨t, ht, rfl, rfl, fun h => by omega⟩
            · go_wp2_with fail
              go_meet
              exact ⟨im, by have := HIM.out; omega, by rw [him2], rfl, fun _ => HIM.out⟩
          case rest =>
            obtain ⟨t, ht, rfl, rfl, hti⟩ := hcut
            have HTI := Lib.hid hti
            clear hti him2 HIM
            have ht1 : (0 : Int) ≤ (t : Int) := by omega
            have ht2 : (t : Int) < 4 := by omega
            have hnl := HX.out.hn.lt
            have n1 := HX.out.hn.cell ht
            have n2 := HX.out.hn.free t
            have hnk := HY.out.nk t ht
            obtain ⟨nt, hnt⟩ : ∃ z, n t = z := ⟨_, rfl⟩
            rw [hnt] at n1 hnk
            have HNT := Lib.hid hnt
            clear hnt
            by_cases hfin : nt = k
            · subst hfin
              go_wp2_with fail
              go_roundg (L.length + 400 - i - 1)
              case measure => omega
              case rel => exact ⟨i + 1, M, f, n, o, dn, Q, A, by omega, by go_num, HX.out, HY.out, HF.out, HST.out.1, by have := HST.out.2; omega, fun h => by
                by_cases e : L.length ≤ i
                · have hw := (HD.out e).wait HY.out (by rw [HTI.out e, HNT.out]; omega)
                  rwa [show i - L.length + 1 = i + 1 - L.length by omega] at hw
                · rw [show i + 1 - L.length = 0 by omega]; exact Due.start HY.out hk3 (i + 1)⟩
            · have hq : ((nt : Int) == (k : Int)) = false := by simp; omega
              have hlk : nt < k := by omega
              obtain ⟨N0, hN0⟩ : ∃ z, M.st = z := ⟨_, rfl⟩
              have N00 : 0 ≤ N0 := by have := HST.out.1; omega
              have N01 : N0 ≤ 600 := by have := HST.out.2; omega
              have N0i : N0 ≤ i := by have := HST.out.2; omega
              have HN0 := Lib.hid hN0
              obtain ⟨ob, hob⟩ : ∃ q, o t = q := ⟨_, rfl⟩
              have o1 := HX.out.ho.cell ht
              have o2 := HX.out.ho.free t
              have hol := HX.out.ho.lt
              rw [hob] at o1
              have HOB := Lib.hid hob
              clear hN0 hob hnk
              go_upto_if 60 with (go_at_call 46; refine (steps_any a v M _ HX.out.hm).mono ?_; rw [HN0.out]; rintro e w3 ⟨rfl, rfl⟩)
              go_cut [14, 15] (fun s1' s2' wx => ∃ (M' : MemS) (f' : Nat → HandS) (n' : Nat → Nat) (o' : Nat → Bool) (dn' Q' : List Nat) (A' : QA), PW w wx a v B H N O M' f' n' o' s1' s2' (dn' ++ Q') (hadQ A' dn' Q') ∧ PyS k M' n' dn' Q' A' ∧ FO f' o' A' ∧ M'.st = N0 + 1 ∧ (L.length ≤ i → Due A' n' k Q' (i + 1) (i + 1 - L.length)))
              case first =>
                have hft := (HF.out t ht).1
                have hoi := (HF.out t ht).2
                rw [HOB.out] at hoi
                obtain ⟨s, hs⟩ : ∃ z, A.s t = z := ⟨_, rfl⟩
                obtain ⟨x, hx⟩ : ∃ z, A.x t = z := ⟨_, rfl⟩
                rw [hs] at hft hoi
                rw [hx] at hft
                have HFT := Lib.hid hft
                have HAS := Lib.hid hs; have HAX := Lib.hid hx
                obtain ⟨x0, x1, x2, x3, x4⟩ := HX.out.hx.at ht hft
                obtain ⟨f0, f1, f2, f3, f4⟩ := HX.out.hx.frees t
                have hxl := HX.out.hx.lt
                have hm48 := HY.out.v.len
                have HM48 := Lib.hid hm48
                obtain ⟨m0, m1, m2, m3, m4⟩ := mapCs HX.out.mp
                have hXd := HX.out.no ((Keeps.refl NoS _).drew)
                clear hs hx hft hm48
                cases ob with
                | true =>
                  have hio : isOut s := hoi.1 rfl
                  obtain ⟨M', A', Q', dn', n', hd, hy', hst', hsx, hl1, hl2, hn', ho', hnear⟩ := HY.out.dropI ht (by rw [HAS.out]; exact hio)
                  rw [HAS.out, HAX.out] at hd
                  obtain ⟨s', hs'⟩ : ∃ z, A'.s t = z := ⟨_, rfl⟩
                  obtain ⟨x', hx'⟩ : ∃ z, A'.x t = z := ⟨_, rfl⟩
                  rw [hs'] at hd hn' ho'
                  rw [hx'] at hd
                  have HDR := Lib.hid hd; have HY' := Lib.hid hy'; have HSX := Lib.hid hsx; have HL := Lib.hid (And.intro hl1 hl2); have HNN := Lib.hid hn'; have HNE := Lib.hid hnear; have HS' := Lib.hid hs'; have HX' := Lib.hid hx'; have HIO := Lib.hid hio
                  have HSTP := Lib.hid (show M'.st = N0 + 1 by rw [hst', HN0.out, wrap64_id (by omega) (by omega)])
                  clear hd hy' hst' hsx hl1 hl2 hn' hnear hs' hx' hoi hio
                  go_wp2_with fail
                  refine wp_region_kept_drew 8 (fun w' => (w'.cell? ⟨H, t * 5, none⟩ = some (.int .i64 t) ∧ w'.cell? ⟨H, t * 5 + 1, none⟩ = some (.int .i64 0) ∧ w'.cell? ⟨H, t * 5 + 2, none⟩ = some (.int .i64 s) ∧ w'.cell? ⟨H, t * 5 + 3, none⟩ = some (.bool false) ∧ w'.cell? ⟨H, t * 5 + 4, none⟩ = some (.int .i64 x)) ∧ (w'.cell? ⟨B, 0, none⟩ = some (.int .i64 2) ∧ w'.cell? ⟨B, 1, none⟩ = some (.int .i64 2) ∧ w'.cell? ⟨B, 2, none⟩ = some (.int .i64 4) ∧ w'.cell? ⟨B, 3, none⟩ = some (.int .i64 0) ∧ w'.cell? ⟨B, 4, none⟩ = some (.int .i64 2))) 8 (fun _ => True) (by kernel_rfl) (⟨⟨x0, x1, x2, x3, x4⟩, ⟨m0, m1, m2, m3, m4⟩⟩) (trivial) (fun hK => ?_)
                  refine wpAnyK_take1 (i := 0) (v := ?_) (by simp only [List.getElem?_toArray, List.getElem?_cons_succ, List.getElem?_cons_zero]; rfl) (by kernel_rfl) (by kernel_rfl) (by kernel_rfl) (by kernel_rfl) (by kernel_rfl) (by kernel_rfl) (by exact fun _ _ _ h => h) (Or.inl ⟨by rfl, ?_⟩) (hK _) ?_
                  rotate_left
                  · intro w hSw; (try dsimp only at hSw); go_simp; (try with_reducible rfl)
                  try simp only [Act.put, List.setIfInBounds_toArray, List.set_cons_zero, List.set_cons_succ]
                  refine wpAnyK_take1 (i := 1) (v := ?_) (by simp only [List.getElem?_toArray, List.getElem?_cons_succ, List.getElem?_cons_zero]; rfl) (by kernel_rfl) (by kernel_rfl) (by kernel_rfl) (by kernel_rfl) (by kernel_rfl) (by kernel_rfl) (by exact fun _ _ _ h => h) (Or.inl ⟨by rfl, ?_⟩) (hK _) ?_
                  rotate_left
                  · intro w hSw; (try dsimp only at hSw); go_simp; (try with_reducible rfl)
                  try simp only [Act.put, List.setIfInBounds_toArray, List.set_cons_zero, List.set_cons_succ]
                  refine wpAnyK_take1 (i := 2) (v := ?_) (by simp only [List.getElem?_toArray, List.getElem?_cons_succ, List.getElem?_cons_zero]; rfl) (by kernel_rfl) (by kernel_rfl) (by kernel_rfl) (by kernel_rfl) (by kernel_rfl) (by kernel_rfl) (by exact fun _ _ _ h => h) (Or.inl ⟨by rfl, ?_⟩) (hK _) ?_
                  rotate_left
                  · intro w hSw; (try dsimp only at hSw); go_simp; (try with_reducible rfl)
                  try simp only [Act.put, List.setIfInBounds_toArray, List.set_cons_zero, List.set_cons_succ]
                  refine wpAnyK_take1 (i := 3) (v := ?_) (by simp only [List.getElem?_toArray, List.getElem?_cons_succ, List.getElem?_cons_zero]; rfl) (by kernel_rfl) (by kernel_rfl) (by kernel_rfl) (by kernel_rfl) (by kernel_rfl) (by kernel_rfl) (by exact fun _ _ _ h => h) (Or.inl ⟨by rfl, ?_⟩) (hK _) ?_
                  rotate_left
                  · intro w hSw; (try dsimp only at hSw); go_simp; (try with_reducible rfl)
                  try simp only [Act.put, List.setIfInBounds_toArray, List.set_cons_zero, List.set_cons_succ]
                  refine wpAnyK_take1 (i := 4) (v := ?_) (by simp only [List.getElem?_toArray, List.getElem?_cons_succ, List.getElem?_cons_zero]; rfl) (by kernel_rfl) (by kernel_rfl) (by kernel_rfl) (by kernel_rfl) (by kernel_rfl) (by kernel_rfl) (by exact fun _ _ _ h => h) (Or.inl ⟨by rfl, ?_⟩) (hK _) ?_
                  rotate_left
                  · intro w hSw; (try dsimp only at hSw); go_simp; (try with_reducible rfl)
                  try simp only [Act.put, List.setIfInBounds_toArray, List.set_cons_zero, List.set_cons_succ]
                  refine wpAnyK_take1 (i := 5) (v := ?_) (by simp only [List.getElem?_toArray, List.getElem?_cons_succ, List.getElem?_cons_zero]; rfl) (by kernel_rfl) (by kernel_rfl) (by kernel_rfl) (by kernel_rfl) (by kernel_rfl) (by kernel_rfl) (by exact fun _ _ _ h => h) (Or.inl ⟨by rfl, ?_⟩) (hK _) ?_
                  rotate_left
                  · intro w hSw; (try dsimp only at hSw); go_simp; (try with_reducible rfl)
                  try simp only [Act.put, List.setIfInBounds_toArray, List.set_cons_zero, List.set_cons_succ]
                  refine wpAnyK_one (i := 6) (by kernel_rfl) (by simp only [List.getElem?_toArray, List.getElem?_cons_succ, List.getElem?_cons_zero]; rfl) (fun kC hkC => ?_)
                  go_simp
                  refine (drop8_any t 0 s false x a v M _ hXd.hm HM48.out).mono ?_; rw [HDR.out]; unfold handV; dsimp only; rintro e w5 ⟨rfl, hm, hk⟩; have hX5 := hXd.turn HO.out hm hk; have m5 := mapCs hX5.mp; have hc5 := hX5.hx.at ht HFT.out; obtain ⟨F0, F1, F2, F3, F4⟩ := hX5.hx.frees t; have hl5 := hX5.hx.lt; have hP := hX5.hand HO.out ht ⟨t, 0, s', false, x'⟩; unfold setH at hP; dsimp only at hP; have HP2 := Lib.hid hP; clear hP hm hk
                  (try go_wp2_with fail)
                  refine hkC.out _ _ (⟨hc5, m5⟩) (trivial) (fun hK => ?_)
                  clear hkC kC
                  try simp only [Act.put, List.setIfInBounds_toArray, List.set_cons_zero, List.set_cons_succ]
                  refine wpAnyK_take1 (i := 7) (v := ?_) (by simp only [List.getElem?_toArray, List.getElem?_cons_succ, List.getElem?_cons_zero]; rfl) (by kernel_rfl) (by kernel_rfl) (by kernel_rfl) (by kernel_rfl) (by kernel_rfl) (by kernel_rfl) (by exact fun _ _ _ h => h) (Or.inl ⟨by rfl, ?_⟩) (hK _) ?_
                  rotate_left
                  · intro w hSw; (try dsimp only at hSw); go_simp; (try with_reducible rfl)
                  try simp only [Act.put, List.setIfInBounds_toArray, List.set_cons_zero, List.set_cons_succ]
                  refine wpAnyK_last (i := 8) (by kernel_rfl) (by simp only [List.getElem?_toArray, List.getElem?_cons_succ, List.getElem?_cons_zero]; rfl) (by kernel_rfl) (by kernel_rfl) (fun kC hkC => ?_)
                  go_simp
                  refine hkC.out _ _ ?_
                  clear hkC kC
                  try simp only [Act.put, List.setIfInBounds_toArray, List.set_cons_zero, List.set_cons_succ]
                  refine wpAnyK_done (by kernel_rfl) ?_ _
                  generalize ((((w5.setCell ⟨H, t * 5, none⟩ (.int .i64 t)).setCell ⟨H, t * 5 + 1, none⟩ (.int .i64 0)).setCell ⟨H, t * 5 + 2, none⟩ (.int .i64 s')).setCell ⟨H, t * 5 + 3, none⟩ (.bool false)).setCell ⟨H, t * 5 + 4, none⟩ (.int .i64 x') = wz at *
                  clear hc5 m5 F0 F1 F2 F3 F4 hl5 hX5 hXd x0 x1 x2 x3 x4 f0 f1 f2 f3 f4 hxl m0 m1 m2 m3 m4 hK o1 o2 hol n1 n2 hnl
                  have hft2 : hput f t ⟨t, 0, s', false, x'⟩ t = ⟨t, 0, s', false, x'⟩ := by simp [hput]
                  obtain ⟨x0, x1, x2, x3, x4⟩ := HP2.out.hx.at ht hft2
                  have hxl := HP2.out.hx.lt
                  clear hft2
                  by_cases hz0 : s' = 0
                  · subst hz0
                    have hX2 := HP2.out.out HO.out ht false
                    have HP3 := Lib.hid hX2
                    have o3 := HP2.out.ho.cell ht
                    have o4 := HP2.out.ho.free t
                    have hn3 := (hX2.hn.cell ht)
                    have hn4 := (hX2.hn.free t)
                    have hl5 := hX2.hn.lt
                    have hl6 := HP2.out.ho.lt
                    have HP4 := Lib.hid (hX2.count HO.out ht)
                    rw [HNT.out] at hn3 HP4
                    clear hX2 HP3
                    go_wp2_with fail
                    go_meet
                    have hnn : n' = nput n t := by rw [HNN.out]; simp
                    have hfo : FO (hput f t ⟨t, 0, A'.s t, false, A'.x t⟩) (bput o t false) A' := HF.out.put HSX.out (fun q e => bput_ne e) (by rw [bput_same, HS'.out]; simp [isOut])
                    rw [HS'.out, HX'.out] at hfo
                    refine ⟨M', _, n', _, dn', Q', A', ?_, HY'.out, hfo, HSTP.out, fun e => ?_⟩
                    · rw [HL.out.1, HL.out.2, hnn]; exact HP4.out
                    · have hs2 := Due.step (HD.out e) ⟨t, ht, by rw [HNT.out]; exact hlk⟩ (by rw [HTI.out e]; exact HNE.out) (fun d c hr => (RC.d_bd HY.out.q HY.out.nq hr).2.2.1) (fun d c hr => (RC.d_bd HY'.out.q HY'.out.nq hr).2.2.1)
                      rwa [show i - L.length + 1 = i + 1 - L.length by omega] at hs2
                  · have hzz : (s' == 0) = false := by simpa using hz0
                    have hout : isOut s' ∧ ¬ s' = 9 := ho'.elim (fun e => absurd e hz0) id
                    have HOU := Lib.hid hout; have HZ0 := Lib.hid hz0
                    clear hout hz0 ho'
                    go_wp2_with fail
                    go_meet
                    have hnn : n' = n := by rw [HNN.out, if_neg HZ0.out]
                    have hfo : FO (hput f t ⟨t, 0, A'.s t, false, A'.x t⟩) o A' := HF.out.put HSX.out (fun q e => rfl) (by rw [HOB.out, HS'.out]; exact ⟨fun _ => HOU.out.1, fun _ => rfl⟩)
                    rw [HS'.out, HX'.out] at hfo
                    refine ⟨M', _, n', _, dn', Q', A', ?_, HY'.out, hfo, HSTP.out, fun e => ?_⟩
                    · rw [HL.out.1, HL.out.2, hnn]; exact HP2.out
                    · have hs2 := Due.step (HD.out e) ⟨t, ht, by rw [HNT.out]; exact hlk⟩ (by rw [HTI.out e]; exact HNE.out) (fun d c hr => (RC.d_bd HY.out.q HY.out.nq hr).2.2.1) (fun d c hr => (RC.d_bd HY'.out.q HY'.out.nq hr).2.2.1)
                      rwa [show i - L.length + 1 = i + 1 - L.length by omega] at hs2
                | false =>
                  have hio : ¬ isOut s := fun e => by have := hoi.2 e; exact absurd this (by decide)
                  obtain ⟨M', A', Q', hd, hy', hst', hsx, hl1, hl2, ho', hnear⟩ := HY.out.takeI ht (by rw [HNT.out]; exact hlk) (by rw [HAS.out]; exact hio)
                  rw [HAS.out, HAX.out] at hd
                  obtain ⟨s', hs'⟩ : ∃ z, A'.s t = z := ⟨_, rfl⟩
                  obtain ⟨x', hx'⟩ : ∃ z, A'.x t = z := ⟨_, rfl⟩
                  rw [hs'] at hd hl2 ho'
                  rw [hx'] at hd
                  obtain ⟨lk, hlk'⟩ : ∃ z, M'.last.k = z := ⟨_, rfl⟩
                  obtain ⟨la, hla⟩ : ∃ z, M'.last.at_ = z := ⟨_, rfl⟩
                  obtain ⟨lv, hlv⟩ : ∃ z, M'.last.val = z := ⟨_, rfl⟩
                  obtain ⟨ls, hls⟩ : ∃ z, M'.last.saw = z := ⟨_, rfl⟩
                  obtain ⟨ld, hld⟩ : ∃ z, M'.last.done = z := ⟨_, rfl⟩
                  have hlast := fun W' h => last_any a v M' W' h
                  rw [hlk', hla, hlv, hls, hld] at hlast
                  have hswd : swD M' = (decide (lk = 3) && ld) := by unfold swD; rw [hlk', hld]
                  rw [hswd] at hl1
                  have HLA := Lib.hid hlast
                  have HDR := Lib.hid hd; have HY' := Lib.hid hy'; have HSX := Lib.hid hsx; have HL := Lib.hid (And.intro hl1 hl2); have HNE := Lib.hid hnear; have HS' := Lib.hid hs'; have HX' := Lib.hid hx'; have HIO := Lib.hid hio; have HO' := Lib.hid ho'
                  have hstp : M'.st = N0 + 1 := by rw [hst', HN0.out, wrap64_id (by omega) (by omega)]
                  have HSTP := Lib.hid hstp
                  clear hd hy' hst' hsx hl1 hl2 hnear hs' hx' hoi hio hlk' hla hlv hls hld hlast hswd ho' hstp
                  go_wp2_with fail
                  refine wp_region_kept_drew 8 (fun w' => (w'.cell? ⟨H, t * 5, none⟩ = some (.int .i64 t) ∧ w'.cell? ⟨H, t * 5 + 1, none⟩ = some (.int .i64 0) ∧ w'.cell? ⟨H, t * 5 + 2, none⟩ = some (.int .i64 s) ∧ w'.cell? ⟨H, t * 5 + 3, none⟩ = some (.bool false) ∧ w'.cell? ⟨H, t * 5 + 4, none⟩ = some (.int .i64 x)) ∧ (w'.cell? ⟨B, 0, none⟩ = some (.int .i64 2) ∧ w'.cell? ⟨B, 1, none⟩ = some (.int .i64 2) ∧ w'.cell? ⟨B, 2, none⟩ = some (.int .i64 4) ∧ w'.cell? ⟨B, 3, none⟩ = some (.int .i64 0) ∧ w'.cell? ⟨B, 4, none⟩ = some (.int .i64 2))) 8 (fun _ => True) (by kernel_rfl) (⟨⟨x0, x1, x2, x3, x4⟩, ⟨m0, m1, m2, m3, m4⟩⟩) (trivial) (fun hK => ?_)
                  refine wpAnyK_take1 (i := 0) (v := ?_) (by simp only [List.getElem?_toArray, List.getElem?_cons_succ, List.getElem?_cons_zero]; rfl) (by kernel_rfl) (by kernel_rfl) (by kernel_rfl) (by kernel_rfl) (by kernel_rfl) (by kernel_rfl) (by exact fun _ _ _ h => h) (Or.inl ⟨by rfl, ?_⟩) (hK _) ?_
                  rotate_left
                  · intro w hSw; (try dsimp only at hSw); go_simp; (try with_reducible rfl)
                  try simp only [Act.put, List.setIfInBounds_toArray, List.set_cons_zero, List.set_cons_succ]
                  refine wpAnyK_take1 (i := 1) (v := ?_) (by simp only [List.getElem?_toArray, List.getElem?_cons_succ, List.getElem?_cons_zero]; rfl) (by kernel_rfl) (by kernel_rfl) (by kernel_rfl) (by kernel_rfl) (by kernel_rfl) (by kernel_rfl) (by exact fun _ _ _ h => h) (Or.inl ⟨by rfl, ?_⟩) (hK _) ?_
                  rotate_left
                  · intro w hSw; (try dsimp only at hSw); go_simp; (try with_reducible rfl)
                  try simp only [Act.put, List.setIfInBounds_toArray, List.set_cons_zero, List.set_cons_succ]
                  refine wpAnyK_take1 (i := 2) (v := ?_) (by simp only [List.getElem?_toArray, List.getElem?_cons_succ, List.getElem?_cons_zero]; rfl) (by kernel_rfl) (by kernel_rfl) (by kernel_rfl) (by kernel_rfl) (by kernel_rfl) (by kernel_rfl) (by exact fun _ _ _ h => h) (Or.inl ⟨by rfl, ?_⟩) (hK _) ?_
                  rotate_left
                  · intro w hSw; (try dsimp only at hSw); go_simp; (try with_reducible rfl)
                  try simp only [Act.put, List.setIfInBounds_toArray, List.set_cons_zero, List.set_cons_succ]
                  refine wpAnyK_take1 (i := 3) (v := ?_) (by simp only [List.getElem?_toArray, List.getElem?_cons_succ, List.getElem?_cons_zero]; rfl) (by kernel_rfl) (by kernel_rfl) (by kernel_rfl) (by kernel_rfl) (by kernel_rfl) (by kernel_rfl) (by exact fun _ _ _ h => h) (Or.inl ⟨by rfl, ?_⟩) (hK _) ?_
                  rotate_left
                  · intro w hSw; (try dsimp only at hSw); go_simp; (try with_reducible rfl)
                  try simp only [Act.put, List.setIfInBounds_toArray, List.set_cons_zero, List.set_cons_succ]
                  refine wpAnyK_take1 (i := 4) (v := ?_) (by simp only [List.getElem?_toArray, List.getElem?_cons_succ, List.getElem?_cons_zero]; rfl) (by kernel_rfl) (by kernel_rfl) (by kernel_rfl) (by kernel_rfl) (by kernel_rfl) (by kernel_rfl) (by exact fun _ _ _ h => h) (Or.inl ⟨by rfl, ?_⟩) (hK _) ?_
                  rotate_left
                  · intro w hSw; (try dsimp only at hSw); go_simp; (try with_reducible rfl)
                  try simp only [Act.put, List.setIfInBounds_toArray, List.set_cons_zero, List.set_cons_succ]
                  refine wpAnyK_take1 (i := 5) (v := ?_) (by simp only [List.getElem?_toArray, List.getElem?_cons_succ, List.getElem?_cons_zero]; rfl) (by kernel_rfl) (by kernel_rfl) (by kernel_rfl) (by kernel_rfl) (by kernel_rfl) (by kernel_rfl) (by exact fun _ _ _ h => h) (Or.inl ⟨by rfl, ?_⟩) (hK _) ?_
                  rotate_left
                  · intro w hSw; (try dsimp only at hSw); go_simp; (try with_reducible rfl)
                  try simp only [Act.put, List.setIfInBounds_toArray, List.set_cons_zero, List.set_cons_succ]
                  refine wpAnyK_one (i := 6) (by kernel_rfl) (by simp only [List.getElem?_toArray, List.getElem?_cons_succ, List.getElem?_cons_zero]; rfl) (fun kC hkC => ?_)
                  go_simp
                  refine (take8_any t 0 s false x a v M _ hXd.hm HM48.out).mono ?_; rw [HDR.out]; unfold handV; dsimp only; rintro e w5 ⟨rfl, hm, hk⟩; have hX5 := hXd.turn HO.out hm hk; have m5 := mapCs hX5.mp; have hc5 := hX5.hx.at ht HFT.out; obtain ⟨F0, F1, F2, F3, F4⟩ := hX5.hx.frees t; have hl5 := hX5.hx.lt; have hP := hX5.hand HO.out ht ⟨t, 0, s', false, x'⟩; unfold setH at hP; dsimp only at hP; have HP2 := Lib.hid hP; clear hP hm hk
                  (try go_wp2_with fail)
                  refine hkC.out _ _ (⟨hc5, m5⟩) (trivial) (fun hK => ?_)
                  clear hkC kC
                  try simp only [Act.put, List.setIfInBounds_toArray, List.set_cons_zero, List.set_cons_succ]
                  refine wpAnyK_take1 (i := 7) (v := ?_) (by simp only [List.getElem?_toArray, List.getElem?_cons_succ, List.getElem?_cons_zero]; rfl) (by kernel_rfl) (by kernel_rfl) (by kernel_rfl) (by kernel_rfl) (by kernel_rfl) (by kernel_rfl) (by exact fun _ _ _ h => h) (Or.inl ⟨by rfl, ?_⟩) (hK _) ?_
                  rotate_left
                  · intro w hSw; (try dsimp only at hSw); go_simp; (try with_reducible rfl)
                  try simp only [Act.put, List.setIfInBounds_toArray, List.set_cons_zero, List.set_cons_succ]
                  refine wpAnyK_last (i := 8) (by kernel_rfl) (by simp only [List.getElem?_toArray, List.getElem?_cons_succ, List.getElem?_cons_zero]; rfl) (by kernel_rfl) (by kernel_rfl) (fun kC hkC => ?_)
                  go_simp
                  refine hkC.out _ _ ?_
                  clear hkC kC
                  try simp only [Act.put, List.setIfInBounds_toArray, List.set_cons_zero, List.set_cons_succ]
                  refine wpAnyK_done (by kernel_rfl) ?_ _
                  generalize ((((w5.setCell ⟨H, t * 5, none⟩ (.int .i64 t)).setCell ⟨H, t * 5 + 1, none⟩ (.int .i64 0)).setCell ⟨H, t * 5 + 2, none⟩ (.int .i64 s')).setCell ⟨H, t * 5 + 3, none⟩ (.bool false)).setCell ⟨H, t * 5 + 4, none⟩ (.int .i64 x') = wz at *
                  clear hc5 m5 F0 F1 F2 F3 F4 hl5 hX5 hXd x0 x1 x2 x3 x4 f0 f1 f2 f3 f4 hxl m0 m1 m2 m3 m4 hK o1 o2 hol n1 n2 hnl
                  have hft2 : hput f t ⟨t, 0, s', false, x'⟩ t = ⟨t, 0, s', false, x'⟩ := by simp [hput]
                  obtain ⟨x0, x1, x2, x3, x4⟩ := HP2.out.hx.at ht hft2
                  have hxl := HP2.out.hx.lt
                  clear hft2
                  have hlen := HY.out.lens hk3
                  have HLEN := Lib.hid hlen
                  have h600 : L.length + 400 ≤ 600 := by omega
                  clear hlen
                  go_upto_region 24 with (go_at_call 16; refine (HLA.out _ HP2.out.hm).mono ?_; rintro e w8 ⟨rfl, hk8⟩; have HP8 := Lib.hid (HP2.out.no hk8); clear hk8)
                  have hbX := heap_alloc_new w8 (.cells #[.int .i64 lk, .int .i64 la, .int .i64 lv, .int .i64 ls, .bool ld] 37)
                  have hPX := HP8.out.no ((Keeps.refl NoS w8).alloc (.cells #[.int .i64 lk, .int .i64 la, .int .i64 lv, .int .i64 ls, .bool ld] 37))
                  obtain ⟨g9, hg9⟩ : ∃ z, w8.heap.size = z := ⟨_, rfl⟩
                  rw [hg9] at hbX
                  (try rw [hg9])
                  generalize w8.alloc (.cells #[.int .i64 lk, .int .i64 la, .int .i64 lv, .int .i64 ls, .bool ld] 37) = wX at *
                  have y0 : wX.cell? ⟨g9, 0, none⟩ = some (.int .i64 lk) := blk_cell hbX 0
                  have y4 : wX.cell? ⟨g9, 4, none⟩ = some (.bool ld) := blk_cell hbX 4
                  have HPX := Lib.hid hPX
                  clear hg9 hbX hPX HP8 x0 x1 x2 x3 x4 hxl
                  have hft2 : hput f t ⟨t, 0, s', false, x'⟩ t = ⟨t, 0, s', false, x'⟩ := by simp [hput]
                  have HFT2 := Lib.hid hft2
                  clear hft2
                  obtain ⟨x0, x1, x2, x3, x4⟩ := HPX.out.hx.at ht HFT2.out
                  have hxl := HPX.out.hx.lt
                  have hol := HPX.out.ho.lt
                  have hsp : (lk = 3 ∧ ld = true) ∨ ((lk = 3 ∧ ld = false) ∨ ¬ lk = 3) := by
                    by_cases e : lk = 3
                    · cases ld
                      · exact .inr (.inl ⟨e, rfl⟩)
                      · exact .inl ⟨e, rfl⟩
                    · exact .inr (.inr e)
                  have hs9 : s' = 9 ∨ ¬ s' = 9 := Decidable.em _
                  have hgt : decide (N0 < N0 + 1) = true := decide_eq_true (by omega)
                  rcases hsp with ⟨rfl, rfl⟩ | ⟨rfl, rfl⟩ | hl3 <;> rcases hs9 with rfl | hs9
                  · go_wp2_with (first
                        | (go_at_call 46; refine (steps_any a v M' _ HPX.out.hm).mono ?_; rw [HSTP.out]; rintro e w9 ⟨rfl, rfl⟩)
                        | (at_builtin; refine wpList_row1 HIT.out _ rfl (.tmp 104) (.tmp 106) rfl (O + 1) _ (natsI (dn ++ Q)) rfl (HPX.out.r1.no ((Keeps.refl NoS wX).alloc (.cells #[.int .i64 t] 3))) wX.heap.size _ (t : Int) rfl (by have h := cells_new wX [.int .i64 t] 3 0 (.int .i64 t) rfl; rwa [add_zero_off] at h) HLEN.out.1 (by simp; have := HPX.out.ho.lt; omega) ?_; intro vA wA hr hg hb; have HPA := Lib.hid ((HPX.out.no ((Keeps.refl NoS wX).alloc (.cells #[.int .i64 t] 3))).app1 HO.out (l1' := (dn ++ Q) ++ [t]) (by rw [natsI_app]; exact hr) hg hb); clear hr hg hb; obtain ⟨X0, X1, X2, X3, X4⟩ := HPA.out.hx.at ht HFT2.out; have Xl := HPA.out.hx.lt)
                        | (at_builtin; refine wpList_row1 HIT.out _ rfl (.tmp 113) (.tmp 115) rfl (O + 1) _ (natsI (hadQ A dn Q)) rfl (HPA.out.r2.no ((Keeps.refl NoS wA).alloc (.cells #[.int .i64 t] 3))) wA.heap.size _ (t : Int) rfl (by have h := cells_new wA [.int .i64 t] 3 0 (.int .i64 t) rfl; rwa [add_zero_off] at h) HLEN.out.2 (by simp; have := HPA.out.ho.lt; omega) ?_; intro vB wB hr hg hb; have HPB := Lib.hid ((HPA.out.no ((Keeps.refl NoS wA).alloc (.cells #[.int .i64 t] 3))).app2 HO.out (l2' := (hadQ A dn Q) ++ [t]) (by rw [natsI_app]; exact hr) hg hb); clear hr hg hb; have o3 := HPB.out.ho.cell ht; have o4 := HPB.out.ho.free t; have o5 := HPB.out.ho.lt))
                    go_meet
                    have hl1 : dn ++ Q' = dn ++ Q ++ [t] := by have h := HL.out.1; simpa using h
                    have hl2 : hadQ A' dn Q' = hadQ A dn Q ++ [t] := by have h := HL.out.2; simpa using h
                    have hfo : FO (hput f t ⟨t, 0, A'.s t, false, A'.x t⟩) (bput o t true) A' := HF.out.put HSX.out (fun q e => bput_ne e) (by rw [bput_same, HS'.out]; simp [isOut])
                    rw [HS'.out, HX'.out] at hfo
                    refine ⟨M', _, n, _, dn, Q', A', ?_, HY'.out, hfo, HSTP.out, fun e => ?_⟩
                    · rw [hl1, hl2]; exact HPB.out.out HO.out ht true
                    · have hs2 := Due.step (HD.out e) ⟨t, ht, by rw [HNT.out]; exact hlk⟩ (by rw [HTI.out e]; exact HNE.out) (fun d c hr => (RC.d_bd HY.out.q HY.out.nq hr).2.2.1) (fun d c hr => (RC.d_bd HY'.out.q HY'.out.nq hr).2.2.1)
                      rwa [show i - L.length + 1 = i + 1 - L.length by omega] at hs2
                  · have hs9' : (s' == 9) = false := by simpa using hs9
                    have HS9 := Lib.hid hs9
                    clear hs9
                    go_wp2_with (first
                        | (go_at_call 46; refine (steps_any a v M' _ HPX.out.hm).mono ?_; rw [HSTP.out]; rintro e w9 ⟨rfl, rfl⟩)
                        | (at_builtin; refine wpList_row1 HIT.out _ rfl (.tmp 104) (.tmp 106) rfl (O + 1) _ (natsI (dn ++ Q)) rfl (HPX.out.r1.no ((Keeps.refl NoS wX).alloc (.cells #[.int .i64 t] 3))) wX.heap.size _ (t : Int) rfl (by have h := cells_new wX [.int .i64 t] 3 0 (.int .i64 t) rfl; rwa [add_zero_off] at h) HLEN.out.1 (by simp; have := HPX.out.ho.lt; omega) ?_; intro vA wA hr hg hb; have HPA := Lib.hid ((HPX.out.no ((Keeps.refl NoS wX).alloc (.cells #[.int .i64 t] 3))).app1 HO.out (l1' := (dn ++ Q) ++ [t]) (by rw [natsI_app]; exact hr) hg hb); clear hr hg hb; obtain ⟨X0, X1, X2, X3, X4⟩ := HPA.out.hx.at ht HFT2.out; have Xl := HPA.out.hx.lt))
                    go_meet
                    have hl1 : dn ++ Q' = dn ++ Q ++ [t] := by have h := HL.out.1; simpa using h
                    have hl2 : hadQ A' dn Q' = hadQ A dn Q := by have h := HL.out.2; simpa [HS9.out] using h
                    have hfo : FO (hput f t ⟨t, 0, A'.s t, false, A'.x t⟩) o A' := HF.out.put HSX.out (fun q e => rfl) (by rw [HOB.out, HS'.out]; exact ⟨fun e => absurd e (by decide), fun e => absurd (HO'.out e) HS9.out⟩)
                    rw [HS'.out, HX'.out] at hfo
                    refine ⟨M', _, n, _, dn, Q', A', ?_, HY'.out, hfo, HSTP.out, fun e => ?_⟩
                    · rw [hl1, hl2]; exact HPA.out
                    · have hs2 := Due.step (HD.out e) ⟨t, ht, by rw [HNT.out]; exact hlk⟩ (by rw [HTI.out e]; exact HNE.out) (fun d c hr => (RC.d_bd HY.out.q HY.out.nq hr).2.2.1) (fun d c hr => (RC.d_bd HY'.out.q HY'.out.nq hr).2.2.1)
                      rwa [show i - L.length + 1 = i + 1 - L.length by omega] at hs2
                  · go_wp2_with (first
                        | (at_builtin; refine wpList_row1 HIT.out _ rfl (.tmp 113) (.tmp 115) rfl (O + 1) _ (natsI (hadQ A dn Q)) rfl (HPX.out.r2.no ((Keeps.refl NoS wX).alloc (.cells #[.int .i64 t] 3))) wX.heap.size _ (t : Int) rfl (by have h := cells_new wX [.int .i64 t] 3 0 (.int .i64 t) rfl; rwa [add_zero_off] at h) HLEN.out.2 (by simp; have := HPX.out.ho.lt; omega) ?_; intro vB wB hr hg hb; have HPB := Lib.hid ((HPX.out.no ((Keeps.refl NoS wX).alloc (.cells #[.int .i64 t] 3))).app2 HO.out (l2' := (hadQ A dn Q) ++ [t]) (by rw [natsI_app]; exact hr) hg hb); clear hr hg hb; have o3 := HPB.out.ho.cell ht; have o4 := HPB.out.ho.free t; have o5 := HPB.out.ho.lt))
                    go_meet
                    have hl1 : dn ++ Q' = dn ++ Q := by have h := HL.out.1; simpa using h
                    have hl2 : hadQ A' dn Q' = hadQ A dn Q ++ [t] := by have h := HL.out.2; simpa using h
                    have hfo : FO (hput f t ⟨t, 0, A'.s t, false, A'.x t⟩) (bput o t true) A' := HF.out.put HSX.out (fun q e => bput_ne e) (by rw [bput_same, HS'.out]; simp [isOut])
                    rw [HS'.out, HX'.out] at hfo
                    refine ⟨M', _, n, _, dn, Q', A', ?_, HY'.out, hfo, HSTP.out, fun e => ?_⟩
                    · rw [hl1, hl2]; exact HPB.out.out HO.out ht true
                    · have hs2 := Due.step (HD.out e) ⟨t, ht, by rw [HNT.out]; exact hlk⟩ (by rw [HTI.out e]; exact HNE.out) (fun d c hr => (RC.d_bd HY.out.q HY.out.nq hr).2.2.1) (fun d c hr => (RC.d_bd HY'.out.q HY'.out.nq hr).2.2.1)
                      rwa [show i - L.length + 1 = i + 1 - L.length by omega] at hs2
                  · have hs9' : (s' == 9) = false := by simpa using hs9
                    have HS9 := Lib.hid hs9
                    clear hs9
                    go_wp2_with fail
                    go_meet
                    have hl1 : dn ++ Q' = dn ++ Q := by have h := HL.out.1; simpa using h
                    have hl2 : hadQ A' dn Q' = hadQ A dn Q := by have h := HL.out.2; simpa [HS9.out] using h
                    have hfo : FO (hput f t ⟨t, 0, A'.s t, false, A'.x t⟩) o A' := HF.out.put HSX.out (fun q e => rfl) (by rw [HOB.out, HS'.out]; exact ⟨fun e => absurd e (by decide), fun e => absurd (HO'.out e) HS9.out⟩)
                    rw [HS'.out, HX'.out] at hfo
                    refine ⟨M', _, n, _, dn, Q', A', ?_, HY'.out, hfo, HSTP.out, fun e => ?_⟩
                    · rw [hl1, hl2]; exact HPX.out
                    · have hs2 := Due.step (HD.out e) ⟨t, ht, by rw [HNT.out]; exact hlk⟩ (by rw [HTI.out e]; exact HNE.out) (fun d c hr => (RC.d_bd HY.out.q HY.out.nq hr).2.2.1) (fun d c hr => (RC.d_bd HY'.out.q HY'.out.nq hr).2.2.1)
                      rwa [show i - L.length + 1 = i + 1 - L.length by omega] at hs2
                  · have hl3' : (lk == 3) = false := by simpa using hl3
                    have HL3 := Lib.hid hl3
                    clear hl3
                    go_wp2_with (first
                        | (at_builtin; refine wpList_row1 HIT.out _ rfl (.tmp 113) (.tmp 115) rfl (O + 1) _ (natsI (hadQ A dn Q)) rfl (HPX.out.r2.no ((Keeps.refl NoS wX).alloc (.cells #[.int .i64 t] 3))) wX.heap.size _ (t : Int) rfl (by have h := cells_new wX [.int .i64 t] 3 0 (.int .i64 t) rfl; rwa [add_zero_off] at h) HLEN.out.2 (by simp; have := HPX.out.ho.lt; omega) ?_; intro vB wB hr hg hb; have HPB := Lib.hid ((HPX.out.no ((Keeps.refl NoS wX).alloc (.cells #[.int .i64 t] 3))).app2 HO.out (l2' := (hadQ A dn Q) ++ [t]) (by rw [natsI_app]; exact hr) hg hb); clear hr hg hb; have o3 := HPB.out.ho.cell ht; have o4 := HPB.out.ho.free t; have o5 := HPB.out.ho.lt))
                    go_meet
                    have hl1 : dn ++ Q' = dn ++ Q := by have h := HL.out.1; simpa [HL3.out] using h
                    have hl2 : hadQ A' dn Q' = hadQ A dn Q ++ [t] := by have h := HL.out.2; simpa using h
                    have hfo : FO (hput f t ⟨t, 0, A'.s t, false, A'.x t⟩) (bput o t true) A' := HF.out.put HSX.out (fun q e => bput_ne e) (by rw [bput_same, HS'.out]; simp [isOut])
                    rw [HS'.out, HX'.out] at hfo
                    refine ⟨M', _, n, _, dn, Q', A', ?_, HY'.out, hfo, HSTP.out, fun e => ?_⟩
                    · rw [hl1, hl2]; exact HPB.out.out HO.out ht true
                    · have hs2 := Due.step (HD.out e) ⟨t, ht, by rw [HNT.out]; exact hlk⟩ (by rw [HTI.out e]; exact HNE.out) (fun d c hr => (RC.d_bd HY.out.q HY.out.nq hr).2.2.1) (fun d c hr => (RC.d_bd HY'.out.q HY'.out.nq hr).2.2.1)
                      rwa [show i - L.length + 1 = i + 1 - L.length by omega] at hs2
                  · have hl3' : (lk == 3) = false := by simpa using hl3
                    have hs9' : (s' == 9) = false := by simpa using hs9
                    have HL3 := Lib.hid hl3
                    have HS9 := Lib.hid hs9
                    clear hl3 hs9
                    go_wp2_with fail
                    go_meet
                    have hl1 : dn ++ Q' = dn ++ Q := by have h := HL.out.1; simpa [HL3.out] using h
                    have hl2 : hadQ A' dn Q' = hadQ A dn Q := by have h := HL.out.2; simpa [HS9.out] using h
                    have hfo : FO (hput f t ⟨t, 0, A'.s t, false, A'.x t⟩) o A' := HF.out.put HSX.out (fun q e => rfl) (by rw [HOB.out, HS'.out]; exact ⟨fun e => absurd e (by decide), fun e => absurd (HO'.out e) HS9.out⟩)
                    rw [HS'.out, HX'.out] at hfo
                    refine ⟨M', _, n, _, dn, Q', A', ?_, HY'.out, hfo, HSTP.out, fun e => ?_⟩
                    · rw [hl1, hl2]; exact HPX.out
                    · have hs2 := Due.step (HD.out e) ⟨t, ht, by rw [HNT.out]; exact hlk⟩ (by rw [HTI.out e]; exact HNE.out) (fun d c hr => (RC.d_bd HY.out.q HY.out.nq hr).2.2.1) (fun d c hr => (RC.d_bd HY'.out.q HY'.out.nq hr).2.2.1)
                      rwa [show i - L.length + 1 = i + 1 - L.length by omega] at hs2
              case rest =>
                clear HX HY HF HD HST HOB HNT HN0 HTI n1 n2 o1 o2 hol hnl hq hlk
                obtain ⟨M', f', n', o', dn', Q', A', hp', hy', hf', hst', hdue'⟩ := hcut
                have HX' := Lib.hid hp'; have HY' := Lib.hid hy'; have HF' := Lib.hid hf'; have HST' := Lib.hid hst'; have HD' := Lib.hid hdue'
                clear hp' hy' hf' hst' hdue'
                go_wp2_with fail
                go_loopg [21, 22] 4 (fun g hv kv wq => ∃ j : Nat, j + g = 4 ∧ hv = .int .i64 (hcN f' j : Nat) ∧ kv = .int .i64 j ∧ wq = wc)
                case atStart => exact ⟨0, rfl, rfl, rfl, rfl⟩
                case round =>
                  obtain ⟨j, hj, rfl, rfl, rfl⟩ := hrel
                  have hle := hcN_le f' j
                  by_cases hj4 : j < 4
                  · have j0 : (0 : Int) ≤ (j : Int) := by omega
                    have j4 : (j : Int) < 4 := by omega
                    have hst : hcN f' (j + 1) = hcN f' j + if (f' j).s = 9 then 1 else 0 := rfl
                    obtain ⟨x0, x1, x2, x3, x4⟩ := HX'.out.hx.cell j hj4
                    obtain ⟨sj, hsj⟩ : ∃ z, (f' j).s = z := ⟨_, rfl⟩
                    rw [hsj] at hst x2
                    have HST2 := Lib.hid hst
                    clear hst hsj x0 x1 x3 x4
                    generalize hcN f' j = cnt at *
                    have hc4 : (cnt : Int) ≤ 4 := by omega
                    by_cases h9 : sj = 9
                    · subst h9
                      go_wp2_with fail
                      go_roundg (4 - j - 1)
                      case measure => omega
                      case rel => exact ⟨j + 1, by omega, (by rw [HST2.out]; simp), by go_num, rfl⟩
                    · have h9' : (sj == 9) = false := by simpa using h9
                      go_wp2_with fail
                      go_roundg (4 - j - 1)
                      case measure => omega
                      case rel => exact ⟨j + 1, by omega, (by rw [HST2.out, if_neg h9]; go_num), by go_num, rfl⟩
                  · obtain rfl : j = 4 := by omega
                    have hone := HF'.out.one HY'.out.q
                    generalize hcN f' 4 = cnt at *
                    have hc1 : decide ((1 : Int) < (cnt : Int)) = false := decide_eq_false (by omega)
                    clear hone hle
                    go_wp2_with (go_at_call 46; refine (steps_any a v M' _ HX'.out.hm).mono ?_; rw [HST'.out]; rintro e w9 ⟨rfl, rfl⟩)
                    go_roundg (L.length + 400 - i - 1)
                    case measure => omega
                    case rel => exact ⟨i + 1, M', f', n', o', dn', Q', A', by omega, by go_num, HX'.out, HY'.out, HF'.out, by rw [HST'.out]; omega, by rw [HST'.out]; omega, fun h => by
                      by_cases e : L.length ≤ i
                      · exact HD'.out e
                      · rw [show i + 1 - L.length = 0 by omega]; exact Due.start HY'.out hk3 (i + 1)⟩
        · obtain rfl : i = L.length + 400 := by omega
          have he := HD.out (by omega)
          rw [show L.length + 400 - L.length = 400 by omega] at he
          obtain ⟨hQ, hdl, hnk⟩ := he.ended HY.out
          subst hQ
          have HDL := Lib.hid hdl
          clear hdl hnk he HD HF HCE HS0
          go_wp2_with fail
          go_ret3
          have hw := HY.out.v.T
          have hdq : hadQ A dn [] = dn := rfl
          have hX := HX.out
          rw [hdq, List.append_nil] at hX
          exact ⟨_, _, dn, M, O + 1, rfl, hX.hm, hX.kp, HY.out.v.len, hw.symm.trans HY.out.q.tl, HDL.out, hX.r1, hX.r2⟩
end Go.Proofs.Ytchgfdfdkcijnaa
