/- The walk of ReadsAsks: the set and the document's own, side by side. -/
import Derived.Test.YtldleacoajlinaaReadsRef
import Derived.Test.YtldleacoajlinaaReadsLaws
import Derived.Test.YtldleacoajlinaaBits
namespace Go.Proofs.Ytldleacoajlinaa
open Go.RowKit

/-- Two sets at blocks a and c, apart from one another, all their own. -/
structure Two (w wr : World) (a c : Nat) (room : Int) (l m : List (Int × Int)) (v u : Value) : Prop where
  s : RSet wr a v room l
  r : RRef wr c u room m
  ac : a ≠ c
  vc : v.ownBlock ≠ some c
  ua : u.ownBlock ≠ some a
  vu : ∀ g, v.ownBlock = some g → u.ownBlock ≠ some g
  na : w.heap.size ≤ a
  nc : w.heap.size ≤ c
  nv : ∀ g, v.ownBlock = some g → w.heap.size ≤ g
  nu : ∀ g, u.ownBlock = some g → w.heap.size ≤ g
  kp : Keeps NoS w wr
theorem own_lt {T : TypeId} {w : World} {a : Nat} {v : Value} {room : Int} {l : List (Int × Int)} (h : WSet T w a v room l) {g : Nat} (hg : v.ownBlock = some g) : g < w.heap.size := (h.ow.lt g hg).2
theorem Two.keep {w wr w' : World} {a c : Nat} {room : Int} {l m : List (Int × Int)} {v u : Value} (h : Two w wr a c room l m v u) (k : Keeps NoS wr w') : Two w w' a c room l m v u :=
  ⟨h.s.keep k (fun f => f) (fun _ _ f => f), h.r.keep k (fun f => f) (fun _ _ f => f), h.ac, h.vc, h.ua, h.vu, h.na, h.nc, h.nv, h.nu, h.kp.trans k⟩
theorem Two.turnS {w wr w' : World} {a c : Nat} {room : Int} {l m l' : List (Int × Int)} {v u v' : Value} (h : Two w wr a c room l m v u)
    (hs : RSet w' a v' room l') (k : Keeps (own2 a v) wr w') (hn : ∀ g, v'.ownBlock = some g → v.ownBlock = some g ∨ wr.heap.size ≤ g) : Two w w' a c room l' m v' u := by
  have hc := blk_lt h.r.hd
  refine ⟨hs, h.r.keep k ?_ ?_, h.ac, ?_, h.ua, ?_, h.na, h.nc, ?_, h.nu, ?_⟩
  · rintro (e | e)
    · exact h.ac e.symm
    · exact h.vc e
  · rintro g hg (e | e)
    · exact h.ua (e ▸ hg)
    · exact h.vu g e hg
  · intro e
    rcases hn _ e with e | e
    · exact h.vc e
    · omega
  · intro g hg hu
    rcases hn _ hg with e | e
    · exact h.vu g e hu
    · have := own_lt h.r hu; omega
  · intro g hg
    rcases hn _ hg with e | e
    · exact h.nv g e
    · exact Nat.le_trans h.kp.size e
  · refine h.kp.trans' k (fun i hi ht => ?_)
    rcases ht with rfl | e
    · have := h.na; omega
    · have := h.nv i e; omega
theorem Two.turnR {w wr w' : World} {a c : Nat} {room : Int} {l m m' : List (Int × Int)} {v u u' : Value} (h : Two w wr a c room l m v u)
    (hs : RRef w' c u' room m') (k : Keeps (own2 c u) wr w') (hn : ∀ g, u'.ownBlock = some g → u.ownBlock = some g ∨ wr.heap.size ≤ g) : Two w w' a c room l m' v u' := by
  have hc := blk_lt h.s.hd
  refine ⟨h.s.keep k ?_ ?_, hs, h.ac, h.vc, ?_, ?_, h.na, h.nc, h.nv, ?_, ?_⟩
  · rintro (e | e)
    · exact h.ac e
    · exact h.ua e
  · rintro g hg (e | e)
    · exact h.vc (e ▸ hg)
    · exact h.vu g hg e
  · intro e
    rcases hn _ e with e | e
    · exact h.ua e
    · omega
  · intro g hg hu
    rcases hn _ hu with e | e
    · exact h.vu g hg e
    · have := own_lt h.s hg; omega
  · intro g hg
    rcases hn _ hg with e | e
    · exact h.nu g e
    · exact Nat.le_trans h.kp.size e
  · refine h.kp.trans' k (fun i hi ht => ?_)
    rcases ht with rfl | e
    · have := h.nc; omega
    · have := h.nu i e; omega

theorem sput_two {w wr : World} {a c : Nat} {room : Int} {l m : List (Int × Int)} {v u : Value} (h : Two w wr a c room l m v u) (hsm : l.length < 4096) (k x : Int) :
    Calls Try.prog 31 #[.pointer (some ⟨a, 0, none⟩), .int .i64 k, .int .i64 x] wr fun e w' => e = .returned (.bool (roomFor room l k)) ∧ ∃ v', Two w w' a c room (putL room l k x) m v' u := by
  by_cases hk : hasKey l k = true
  · rw [show roomFor room l k = true by simp [roomFor, hk], show putL room l k x = l by simp [putL, hk]]
    exact (rput_has a v room l k x wr h.s hk).mono fun e w' ⟨he, hw⟩ => ⟨he, v, h.keep hw⟩
  · have hk : hasKey l k = false := by simpa using hk
    by_cases hr : (l.length : Int) < room
    · rw [show roomFor room l k = true by simp [roomFor, hr], show putL room l k x = l ++ [(k, x)] by simp [putL, hk, hr]]
      exact (rput_new a v room l k x wr h.s hk hr hsm).mono fun e w' ⟨he, v', hv, hkp, hn⟩ => ⟨he, v', h.turnS hv hkp hn⟩
    · have e1 : roomFor room l k = false := by simp [roomFor, hk, hr]
      rw [e1, show putL room l k x = l by simp [putL, hk, hr]]
      exact (rput_full a v room l k x wr h.s e1).mono fun e w' ⟨he, hw⟩ => ⟨he, v, h.keep hw⟩
theorem fput_two {w wr : World} {a c : Nat} {room : Int} {l m : List (Int × Int)} {v u : Value} (h : Two w wr a c room l m v u) (hsm : m.length < 4096) (k x : Int) :
    Calls Try.prog 43 #[.pointer (some ⟨c, 0, none⟩), .int .i64 k, .int .i64 x] wr fun e w' => e = .returned (.bool (roomFor room m k)) ∧ ∃ u', Two w w' a c room l (putL room m k x) v u' := by
  by_cases hk : hasKey m k = true
  · rw [show roomFor room m k = true by simp [roomFor, hk], show putL room m k x = m by simp [putL, hk]]
    exact (fPut_has c u room m k x wr h.r hk).mono fun e w' ⟨he, hw⟩ => ⟨he, u, h.keep hw⟩
  · have hk : hasKey m k = false := by simpa using hk
    by_cases hr : (m.length : Int) < room
    · rw [show roomFor room m k = true by simp [roomFor, hr], show putL room m k x = m ++ [(k, x)] by simp [putL, hk, hr]]
      exact (fPut_new c u room m k x wr h.r hk hr hsm).mono fun e w' ⟨he, v', hv, hkp, hn⟩ => ⟨he, v', h.turnR hv hkp hn⟩
    · have e1 : roomFor room m k = false := by simp [roomFor, hk, hr]
      rw [e1, show putL room m k x = m by simp [putL, hk, hr]]
      exact (fPut_full c u room m k x wr h.r e1).mono fun e w' ⟨he, hw⟩ => ⟨he, u, h.keep hw⟩
theorem putL_len (room : Int) (l : List (Int × Int)) (k x : Int) : (putL room l k x).length ≤ l.length + 1 := by
  unfold putL; split
  · omega
  · split <;> simp

theorem Two.clearS {w wr w' : World} {a c : Nat} {room : Int} {l m : List (Int × Int)} {v u : Value} (h : Two w wr a c room l m v u)
    (hs : RSet w' a (.slice none 0 0) room []) (k : Keeps (own2 a v) wr w') : Two w w' a c room [] m (.slice none 0 0) u :=
  h.turnS hs k (by simp [Value.ownBlock])
theorem Two.clearR {w wr : World} {a c : Nat} {room : Int} {l m : List (Int × Int)} {v u : Value} (h : Two w wr a c room l m v u) :
    Two w (wr.setCell ⟨c, 1, none⟩ (.slice none 0 0)) a c room l [] v (.slice none 0 0) :=
  h.turnR ⟨by rw [blk_set h.r.hd]; rfl, World.ownsRow_nil _ _ _ _, by simp [Value.ownBlock], by simp⟩ ((Keeps.refl _ _).setCell (fun _ => .inl rfl) _) (by simp [Value.ownBlock])

theorem owns_cells {w : World} {e : TypeId} {p : Option Addr} {n c : Nat} {xs : List Value} (h : w.ownsRow 0 e 1 (.slice p n c) n xs) (hn : 0 < n) : ∃ g, p = some ⟨g, 0, none⟩ ∧ ∀ (j : Nat) (u : Value), xs[j]? = some u → w.cell? ⟨g, j, none⟩ = some u := by
  rcases h.2 with ⟨hv, hz⟩ | ⟨g, cap, cur, hv, _⟩
  · omega
  · simp only [Value.slice.injEq, true_and] at hv
    obtain ⟨rfl, rfl⟩ := hv
    exact ⟨g, rfl, fun j u hu => by rw [← add_zero_off]; exact h.cells rfl j u hu⟩
theorem keysOf_get (l : List (Int × Int)) (k : Nat) (h : k < l.length) : (keysOf l)[k]? = some (.int .i64 (l.getD k (0, 0)).1) := by
  rw [getD_at _ _ _ h]; simp [keysOf, h]
set_option maxHeartbeats 1000000 in
set_option maxRecDepth 100000 in
theorem readsAsks_main (w : World) (a0 : Int) (v1 : Value) (ls : List (Int × Int)) (hin : InW w v1 ls) (a2 : Int) (h60 : ls.length ≤ 60) :
    Calls Try.prog 9 #[.int .i64 a0, v1, .int .i64 a2] w fun e w' => e = .returned (.bool true) ∧ Keeps NoS w w' := by
  obtain ⟨p, cap, rfl, hmax, hcell⟩ := hin
  have Hc := Lib.hid hcell
  clear hcell
  go_enter Try.func9, Try.ntmps9
  go_upto_if 20 with fail
  go_cut [0] (fun n wx => ∃ z : Int, n = .int .i64 z ∧ w = wx)
  case first =>
    go_wp2
    all_goals (go_meet; exact ⟨_, rfl, rfl⟩)
  case rest =>
    obtain ⟨z, rfl, rfl⟩ := hcut
    obtain ⟨R, hR⟩ : ∃ r, min (max z 0) 32 = r := ⟨_, rfl⟩
    have HR := Lib.hid hR
    clear hR
    go_wp2_with (first
      | (go_at_call 30; refine (rnew_any z w).mono ?_; rw [HR.out]; rintro e w1 ⟨rfl, hs, hk, hz⟩)
      | (go_at_call 41; refine (cap_any z _).mono ?_; rw [HR.out]; rintro e w2 ⟨rfl, rfl⟩))
    have hT : Two w (w1.alloc (.cells #[.int .i64 R, .slice none 0 0] 54)) w.heap.size w1.heap.size R [] [] (.slice none 0 0) (.slice none 0 0) := by
      refine ⟨hs.keep ((Keeps.refl NoS _).alloc _) (fun f => f) (fun _ _ f => f), ⟨heap_alloc_new _ _, World.ownsRow_nil _ _ _ _, by simp [Value.ownBlock], by simp⟩, by omega, ?_, ?_, ?_, Nat.le_refl _, by omega, ?_, ?_, hk.alloc _⟩ <;> simp [Value.ownBlock]
    have HT := Lib.hid hT
    clear hT hs hk
    go_loopw [9] (fun i wr => ∃ (k : Nat) (l : List (Int × Int)) (v u : Value), k ≤ ls.length ∧ i = .int .i64 k ∧ l.length ≤ k ∧ Two w wr w.heap.size w1.heap.size R l l v u) (fun i _ => ls.length - (intOf i).toNat)
    case atStart => exact ⟨0, [], _, _, by omega, rfl, by simp, HT.out⟩
    case round =>
      obtain ⟨k, l, v, u, hk, rfl, hl, hT⟩ := hrel
      clear HT
      by_cases hlt : k < ls.length
      · obtain ⟨b, off, rfl, hc⟩ := Hc.out (fun e => by rw [e] at hlt; exact absurd hlt (by simp))
        obtain ⟨e0, e1⟩ := hc k hlt
        have d0 := hT.kp.cell e0 (fun f => f)
        clear hc Hc
        generalize (ls.getD k (0, 0)).1 = key at *
        generalize (ls.getD k (0, 0)).2 = val at *
        go_upto_if 47 with fail
        go_cut [10] (fun n wx => ∃ ky : Int, n = .int .i64 ky ∧ wr = wx)
        case first =>
          go_wp2
          all_goals (go_meet; exact ⟨_, rfl, rfl⟩)
        case rest =>
          obtain ⟨ky, rfl, rfl⟩ := hcut
          go_upto_region 14 with fail
          go_cut [87] (fun b wx => b = .bool false ∧ ∃ v' u', Two w wx w.heap.size w1.heap.size R (putL R l ky val) (putL R l ky val) v' u')
          case first =>
            have d1 := hT.kp.cell e1 (fun f => f)
            have hl1 : l.length < 4096 := by omega
            refine wp_region_held_drew (S := (fun w' => w'.cell? ⟨b, off + k * 2 + 1, none⟩ = some (.int .i64 val))) (by kernel_rfl) (d1) (fun hHeld => ?_)
            refine wpAnyH_take (i := 0) (v := ?_) (by simp only [List.getElem?_toArray, List.getElem?_cons_succ, List.getElem?_cons_zero]; rfl) (by kernel_rfl) (by kernel_rfl) (by kernel_rfl) (by exact fun _ _ _ h => h) (Or.inl ⟨by rfl, ?_⟩) hHeld ?_
            rotate_left
            · intro w hSw; (try dsimp only at hSw); go_simp; (try with_reducible rfl)
            try simp only [Act.put, List.setIfInBounds_toArray, List.set_cons_zero, List.set_cons_succ]
            refine wpAnyH_take (i := 1) (v := ?_) (by simp only [List.getElem?_toArray, List.getElem?_cons_succ, List.getElem?_cons_zero]; rfl) (by kernel_rfl) (by kernel_rfl) (by kernel_rfl) (by exact fun _ _ _ h => h) (Or.inl ⟨by rfl, ?_⟩) hHeld ?_
            rotate_left
            · intro w hSw; (try dsimp only at hSw); go_simp; (try with_reducible rfl)
            try simp only [Act.put, List.setIfInBounds_toArray, List.set_cons_zero, List.set_cons_succ]
            refine wpAnyH_take (i := 3) (v := ?_) (by simp only [List.getElem?_toArray, List.getElem?_cons_succ, List.getElem?_cons_zero]; rfl) (by kernel_rfl) (by kernel_rfl) (by kernel_rfl) (by exact fun _ _ _ h => h) (Or.inl ⟨by rfl, ?_⟩) hHeld ?_
            rotate_left
            · intro w hSw; (try dsimp only at hSw); go_simp; (try with_reducible rfl)
            try simp only [Act.put, List.setIfInBounds_toArray, List.set_cons_zero, List.set_cons_succ]
            refine wpAnyH_take (i := 4) (v := ?_) (by simp only [List.getElem?_toArray, List.getElem?_cons_succ, List.getElem?_cons_zero]; rfl) (by kernel_rfl) (by kernel_rfl) (by kernel_rfl) (by exact fun _ _ _ h => h) (Or.inl ⟨by rfl, ?_⟩) hHeld ?_
            rotate_left
            · intro w hSw; (try dsimp only at hSw); go_simp; (try with_reducible rfl)
            try simp only [Act.put, List.setIfInBounds_toArray, List.set_cons_zero, List.set_cons_succ]
            refine wpAnyH_ready (rs := [2]) (by kernel_rfl) (by simp) ?_
            refine AllReadyH.cons (by simp only [List.getElem?_toArray, List.getElem?_cons_succ, List.getElem?_cons_zero]; rfl) (fun kC hkC => ?_) AllReadyH.nil
            go_simp
            refine (rroom_any _ v R l ky _ (hT.keep ((Keeps.refl _ _).drew)).s).mono ?_; rintro e w2 ⟨rfl, hk2⟩; have hT2 := (hT.keep ((Keeps.refl _ _).drew)).keep hk2
            (try go_wp2_with fail)
            refine hkC.out _ _ (hT2.kp.cell e1 (fun f => f)) (fun hHeld => ?_)
            clear hkC kC
            try simp only [Act.put, List.setIfInBounds_toArray, List.set_cons_zero, List.set_cons_succ]
            refine wpAnyH_ready (rs := [5]) (by kernel_rfl) (by simp) ?_
            refine AllReadyH.cons (by simp only [List.getElem?_toArray, List.getElem?_cons_succ, List.getElem?_cons_zero]; rfl) (fun kC hkC => ?_) AllReadyH.nil
            go_simp
            refine (fRoom_any _ u R l ky _ hT2.r).mono ?_; rintro e w3 ⟨rfl, hk3⟩; have hT3 := hT2.keep hk3
            (try go_wp2_with fail)
            refine hkC.out _ _ (hT3.kp.cell e1 (fun f => f)) (fun hHeld => ?_)
            clear hkC kC
            try simp only [Act.put, List.setIfInBounds_toArray, List.set_cons_zero, List.set_cons_succ]
            refine wpAnyH_take (i := 6) (v := ?_) (by simp only [List.getElem?_toArray, List.getElem?_cons_succ, List.getElem?_cons_zero]; rfl) (by kernel_rfl) (by kernel_rfl) (by kernel_rfl) (by exact fun _ _ _ h => h) (Or.inl ⟨by rfl, ?_⟩) hHeld ?_
            rotate_left
            · intro w hSw; (try dsimp only at hSw); go_simp; (try with_reducible rfl)
            try simp only [Act.put, List.setIfInBounds_toArray, List.set_cons_zero, List.set_cons_succ]
            refine wpAnyH_take (i := 7) (v := ?_) (by simp only [List.getElem?_toArray, List.getElem?_cons_succ, List.getElem?_cons_zero]; rfl) (by kernel_rfl) (by kernel_rfl) (by kernel_rfl) (by exact fun _ _ _ h => h) (Or.inl ⟨by rfl, ?_⟩) hHeld ?_
            rotate_left
            · intro w hSw; (try dsimp only at hSw); go_simp; (try with_reducible rfl)
            try simp only [Act.put, List.setIfInBounds_toArray, List.set_cons_zero, List.set_cons_succ]
            refine wpAnyH_take (i := 8) (v := ?_) (by simp only [List.getElem?_toArray, List.getElem?_cons_succ, List.getElem?_cons_zero]; rfl) (by kernel_rfl) (by kernel_rfl) (by kernel_rfl) (by exact fun _ _ _ h => h) (Or.inl ⟨by rfl, ?_⟩) hHeld ?_
            rotate_left
            · intro w hSw; (try dsimp only at hSw); go_simp; (try with_reducible rfl)
            try simp only [Act.put, List.setIfInBounds_toArray, List.set_cons_zero, List.set_cons_succ]
            refine wpAnyH_take (i := 9) (v := ?_) (by simp only [List.getElem?_toArray, List.getElem?_cons_succ, List.getElem?_cons_zero]; rfl) (by kernel_rfl) (by kernel_rfl) (by kernel_rfl) (by exact fun _ _ _ h => h) (Or.inl ⟨by rfl, ?_⟩) hHeld ?_
            rotate_left
            · intro w hSw; (try dsimp only at hSw); go_simp; (try with_reducible rfl)
            try simp only [Act.put, List.setIfInBounds_toArray, List.set_cons_zero, List.set_cons_succ]
            refine wpAnyH_take (i := 10) (v := ?_) (by simp only [List.getElem?_toArray, List.getElem?_cons_succ, List.getElem?_cons_zero]; rfl) (by kernel_rfl) (by kernel_rfl) (by kernel_rfl) (by exact fun _ _ _ h => h) (Or.inl ⟨by rfl, ?_⟩) hHeld ?_
            rotate_left
            · intro w hSw; (try dsimp only at hSw); go_simp; (try with_reducible rfl)
            try simp only [Act.put, List.setIfInBounds_toArray, List.set_cons_zero, List.set_cons_succ]
            refine wpAnyH_take (i := 11) (v := ?_) (by simp only [List.getElem?_toArray, List.getElem?_cons_succ, List.getElem?_cons_zero]; rfl) (by kernel_rfl) (by kernel_rfl) (by kernel_rfl) (by exact fun _ _ _ h => h) (Or.inl ⟨by rfl, ?_⟩) hHeld ?_
            rotate_left
            · intro w hSw; (try dsimp only at hSw); go_simp; (try with_reducible rfl)
            try simp only [Act.put, List.setIfInBounds_toArray, List.set_cons_zero, List.set_cons_succ]
            refine wpAnyH_take (i := 12) (v := ?_) (by simp only [List.getElem?_toArray, List.getElem?_cons_succ, List.getElem?_cons_zero]; rfl) (by kernel_rfl) (by kernel_rfl) (by kernel_rfl) (by exact fun _ _ _ h => h) (Or.inl ⟨by rfl, ?_⟩) hHeld ?_
            rotate_left
            · intro w hSw; (try dsimp only at hSw); go_simp; (try with_reducible rfl)
            try simp only [Act.put, List.setIfInBounds_toArray, List.set_cons_zero, List.set_cons_succ]
            refine wpAnyH_take (i := 13) (v := ?_) (by simp only [List.getElem?_toArray, List.getElem?_cons_succ, List.getElem?_cons_zero]; rfl) (by kernel_rfl) (by kernel_rfl) (by kernel_rfl) (by exact fun _ _ _ h => h) (Or.inl ⟨by rfl, ?_⟩) hHeld ?_
            rotate_left
            · intro w hSw; (try dsimp only at hSw); go_simp; (try with_reducible rfl)
            try simp only [Act.put, List.setIfInBounds_toArray, List.set_cons_zero, List.set_cons_succ]
            refine wpAnyH_take (i := 14) (v := ?_) (by simp only [List.getElem?_toArray, List.getElem?_cons_succ, List.getElem?_cons_zero]; rfl) (by kernel_rfl) (by kernel_rfl) (by kernel_rfl) (by exact fun _ _ _ h => h) (Or.inl ⟨by rfl, ?_⟩) hHeld ?_
            rotate_left
            · intro w hSw; (try dsimp only at hSw); go_simp; (try with_reducible rfl)
            try simp only [Act.put, List.setIfInBounds_toArray, List.set_cons_zero, List.set_cons_succ]
            refine wpAnyH_take (i := 16) (v := ?_) (by simp only [List.getElem?_toArray, List.getElem?_cons_succ, List.getElem?_cons_zero]; rfl) (by kernel_rfl) (by kernel_rfl) (by kernel_rfl) (by exact fun _ _ _ h => h) (Or.inl ⟨by rfl, ?_⟩) hHeld ?_
            rotate_left
            · intro w hSw; (try dsimp only at hSw); go_simp; (try with_reducible rfl)
            try simp only [Act.put, List.setIfInBounds_toArray, List.set_cons_zero, List.set_cons_succ]
            refine wpAnyH_take (i := 17) (v := ?_) (by simp only [List.getElem?_toArray, List.getElem?_cons_succ, List.getElem?_cons_zero]; rfl) (by kernel_rfl) (by kernel_rfl) (by kernel_rfl) (by exact fun _ _ _ h => h) (Or.inl ⟨by rfl, ?_⟩) hHeld ?_
            rotate_left
            · intro w hSw; (try dsimp only at hSw); go_simp; (try with_reducible rfl)
            try simp only [Act.put, List.setIfInBounds_toArray, List.set_cons_zero, List.set_cons_succ]
            refine wpAnyH_take (i := 18) (v := ?_) (by simp only [List.getElem?_toArray, List.getElem?_cons_succ, List.getElem?_cons_zero]; rfl) (by kernel_rfl) (by kernel_rfl) (by kernel_rfl) (by exact fun _ _ _ h => h) (Or.inl ⟨by rfl, ?_⟩) hHeld ?_
            rotate_left
            · intro w hSw; (try dsimp only at hSw); go_simp; (try with_reducible rfl)
            try simp only [Act.put, List.setIfInBounds_toArray, List.set_cons_zero, List.set_cons_succ]
            refine wpAnyH_take (i := 19) (v := ?_) (by simp only [List.getElem?_toArray, List.getElem?_cons_succ, List.getElem?_cons_zero]; rfl) (by kernel_rfl) (by kernel_rfl) (by kernel_rfl) (by exact fun _ _ _ h => h) (Or.inl ⟨by rfl, ?_⟩) hHeld ?_
            rotate_left
            · intro w hSw; (try dsimp only at hSw); go_simp; (try with_reducible rfl)
            try simp only [Act.put, List.setIfInBounds_toArray, List.set_cons_zero, List.set_cons_succ]
            refine wpAnyH_take (i := 20) (v := ?_) (by simp only [List.getElem?_toArray, List.getElem?_cons_succ, List.getElem?_cons_zero]; rfl) (by kernel_rfl) (by kernel_rfl) (by kernel_rfl) (by exact fun _ _ _ h => h) (Or.inl ⟨by rfl, ?_⟩) hHeld ?_
            rotate_left
            · intro w hSw; (try dsimp only at hSw); go_simp; (try with_reducible rfl)
            try simp only [Act.put, List.setIfInBounds_toArray, List.set_cons_zero, List.set_cons_succ]
            refine wpAnyH_take (i := 21) (v := ?_) (by simp only [List.getElem?_toArray, List.getElem?_cons_succ, List.getElem?_cons_zero]; rfl) (by kernel_rfl) (by kernel_rfl) (by kernel_rfl) (by exact fun _ _ _ h => h) (Or.inl ⟨by rfl, ?_⟩) hHeld ?_
            rotate_left
            · intro w hSw; (try dsimp only at hSw); go_simp; (try with_reducible rfl)
            try simp only [Act.put, List.setIfInBounds_toArray, List.set_cons_zero, List.set_cons_succ]
            refine wpAnyH_take (i := 22) (v := ?_) (by simp only [List.getElem?_toArray, List.getElem?_cons_succ, List.getElem?_cons_zero]; rfl) (by kernel_rfl) (by kernel_rfl) (by kernel_rfl) (by exact fun _ _ _ h => h) (Or.inl ⟨by rfl, ?_⟩) hHeld ?_
            rotate_left
            · intro w hSw; (try dsimp only at hSw); go_simp; (try with_reducible rfl)
            try simp only [Act.put, List.setIfInBounds_toArray, List.set_cons_zero, List.set_cons_succ]
            refine wpAnyH_ready (rs := [15]) (by kernel_rfl) (by simp) ?_
            refine AllReadyH.cons (by simp only [List.getElem?_toArray, List.getElem?_cons_succ, List.getElem?_cons_zero]; rfl) (fun kC hkC => ?_) AllReadyH.nil
            go_simp
            refine (sput_two hT3 hl1 ky val).mono ?_; rintro e w4 ⟨rfl, v4, hT4⟩
            (try go_wp2_with fail)
            refine hkC.out _ _ (hT4.kp.cell e1 (fun f => f)) (fun hHeld => ?_)
            clear hkC kC
            try simp only [Act.put, List.setIfInBounds_toArray, List.set_cons_zero, List.set_cons_succ]
            refine wpAnyH_ready (rs := [23]) (by kernel_rfl) (by simp) ?_
            refine AllReadyH.cons (by simp only [List.getElem?_toArray, List.getElem?_cons_succ, List.getElem?_cons_zero]; rfl) (fun kC hkC => ?_) AllReadyH.nil
            go_simp
            refine (fput_two hT4 hl1 ky val).mono ?_; rintro e w5 ⟨rfl, u5, hT5⟩; obtain ⟨p5, c5, rfl⟩ := hT5.r.len
            (try go_wp2_with fail)
            refine hkC.out _ _ (hT5.kp.cell e1 (fun f => f)) (fun hHeld => ?_)
            clear hkC kC
            try simp only [Act.put, List.setIfInBounds_toArray, List.set_cons_zero, List.set_cons_succ]
            refine wpAnyH_mono (S' := (fun w' => w'.cell? ⟨b, off + k * 2 + 1, none⟩ = some (.int .i64 val) ∧ w'.cell? ⟨w1.heap.size, 1, none⟩ = some (.slice p5 (putL R l ky val).length c5))) (fun _ h => h.1) _ _ _ _ ?_
            replace hHeld : ((fun w' => w'.cell? ⟨b, off + k * 2 + 1, none⟩ = some (.int .i64 val) ∧ w'.cell? ⟨w1.heap.size, 1, none⟩ = some (.slice p5 (putL R l ky val).length c5)) : World → Prop) _ := ⟨hT5.kp.cell e1 (fun f => f), hT5.r.cases.2.1⟩
            refine wpAnyH_take (i := 24) (v := ?_) (by simp only [List.getElem?_toArray, List.getElem?_cons_succ, List.getElem?_cons_zero]; rfl) (by kernel_rfl) (by kernel_rfl) (by kernel_rfl) (by exact fun _ _ _ h => h) (Or.inl ⟨by rfl, ?_⟩) hHeld ?_
            rotate_left
            · intro w hSw; (try dsimp only at hSw); go_simp; (try with_reducible rfl)
            try simp only [Act.put, List.setIfInBounds_toArray, List.set_cons_zero, List.set_cons_succ]
            refine wpAnyH_take (i := 25) (v := ?_) (by simp only [List.getElem?_toArray, List.getElem?_cons_succ, List.getElem?_cons_zero]; rfl) (by kernel_rfl) (by kernel_rfl) (by kernel_rfl) (by exact fun _ _ _ h => h) (Or.inl ⟨by rfl, ?_⟩) hHeld ?_
            rotate_left
            · intro w hSw; (try dsimp only at hSw); go_simp; (try with_reducible rfl)
            try simp only [Act.put, List.setIfInBounds_toArray, List.set_cons_zero, List.set_cons_succ]
            refine wpAnyH_take (i := 26) (v := ?_) (by simp only [List.getElem?_toArray, List.getElem?_cons_succ, List.getElem?_cons_zero]; rfl) (by kernel_rfl) (by kernel_rfl) (by kernel_rfl) (by exact fun _ _ _ h => h) (Or.inl ⟨by rfl, ?_⟩) hHeld ?_
            rotate_left
            · intro w hSw; (try dsimp only at hSw); go_simp; (try with_reducible rfl)
            try simp only [Act.put, List.setIfInBounds_toArray, List.set_cons_zero, List.set_cons_succ]
            refine wpAnyH_take (i := 27) (v := ?_) (by simp only [List.getElem?_toArray, List.getElem?_cons_succ, List.getElem?_cons_zero]; rfl) (by kernel_rfl) (by kernel_rfl) (by kernel_rfl) (by exact fun _ _ _ h => h) (Or.inl ⟨by rfl, ?_⟩) hHeld ?_
            rotate_left
            · intro w hSw; (try dsimp only at hSw); go_simp; (try with_reducible rfl)
            try simp only [Act.put, List.setIfInBounds_toArray, List.set_cons_zero, List.set_cons_succ]
            refine wpAnyH_take (i := 29) (v := ?_) (by simp only [List.getElem?_toArray, List.getElem?_cons_succ, List.getElem?_cons_zero]; rfl) (by kernel_rfl) (by kernel_rfl) (by kernel_rfl) (by exact fun _ _ _ h => h) (Or.inl ⟨by rfl, ?_⟩) hHeld ?_
            rotate_left
            · intro w hSw; (try dsimp only at hSw); go_simp; (try with_reducible rfl)
            try simp only [Act.put, List.setIfInBounds_toArray, List.set_cons_zero, List.set_cons_succ]
            refine wpAnyH_take (i := 30) (v := ?_) (by simp only [List.getElem?_toArray, List.getElem?_cons_succ, List.getElem?_cons_zero]; rfl) (by kernel_rfl) (by kernel_rfl) (by kernel_rfl) (by exact fun _ _ _ h => h) (Or.inl ⟨by rfl, ?_⟩) hHeld ?_
            rotate_left
            · intro w hSw; (try dsimp only at hSw); go_simp; (try with_reducible rfl)
            try simp only [Act.put, List.setIfInBounds_toArray, List.set_cons_zero, List.set_cons_succ]
            refine wpAnyH_take (i := 31) (v := ?_) (by simp only [List.getElem?_toArray, List.getElem?_cons_succ, List.getElem?_cons_zero]; rfl) (by kernel_rfl) (by kernel_rfl) (by kernel_rfl) (by exact fun _ _ _ h => h) (Or.inl ⟨by rfl, ?_⟩) hHeld ?_
            rotate_left
            · intro w hSw; (try dsimp only at hSw); go_simp; (try with_reducible rfl)
            try simp only [Act.put, List.setIfInBounds_toArray, List.set_cons_zero, List.set_cons_succ]
            refine wpAnyH_take (i := 32) (v := ?_) (by simp only [List.getElem?_toArray, List.getElem?_cons_succ, List.getElem?_cons_zero]; rfl) (by kernel_rfl) (by kernel_rfl) (by kernel_rfl) (by exact fun _ _ _ h => h) (Or.inl ⟨by rfl, ?_⟩) hHeld ?_
            rotate_left
            · intro w hSw; (try dsimp only at hSw); go_simp; (try with_reducible rfl)
            try simp only [Act.put, List.setIfInBounds_toArray, List.set_cons_zero, List.set_cons_succ]
            refine wpAnyH_take (i := 33) (v := ?_) (by simp only [List.getElem?_toArray, List.getElem?_cons_succ, List.getElem?_cons_zero]; rfl) (by kernel_rfl) (by kernel_rfl) (by kernel_rfl) (by exact fun _ _ _ h => h) (Or.inl ⟨by rfl, ?_⟩) hHeld ?_
            rotate_left
            · intro w hSw; (try dsimp only at hSw); go_simp; (try with_reducible rfl)
            try simp only [Act.put, List.setIfInBounds_toArray, List.set_cons_zero, List.set_cons_succ]
            refine wpAnyH_ready (rs := [28]) (by kernel_rfl) (by simp) ?_
            refine AllReadyH.cons (by simp only [List.getElem?_toArray, List.getElem?_cons_succ, List.getElem?_cons_zero]; rfl) (fun kC hkC => ?_) AllReadyH.nil
            go_simp
            refine (rlen_any _ v4 R _ _ hT5.s).mono ?_; rintro e w6 ⟨rfl, rfl⟩
            (try go_wp2_with fail)
            refine hkC.out _ _ (hHeld) (fun hHeld => ?_)
            clear hkC kC
            try simp only [Act.put, List.setIfInBounds_toArray, List.set_cons_zero, List.set_cons_succ]
            refine wpAnyH_take (i := 34) (v := ?_) (by simp only [List.getElem?_toArray, List.getElem?_cons_succ, List.getElem?_cons_zero]; rfl) (by kernel_rfl) (by kernel_rfl) (by kernel_rfl) (by exact fun _ _ _ h => h) (Or.inl ⟨by rfl, ?_⟩) hHeld ?_
            rotate_left
            · intro w hSw; (try dsimp only at hSw); go_simp; (try with_reducible rfl)
            try simp only [Act.put, List.setIfInBounds_toArray, List.set_cons_zero, List.set_cons_succ]
            refine wpAnyH_take (i := 35) (v := ?_) (by simp only [List.getElem?_toArray, List.getElem?_cons_succ, List.getElem?_cons_zero]; rfl) (by kernel_rfl) (by kernel_rfl) (by kernel_rfl) (by exact fun _ _ _ h => h) (Or.inl ⟨by rfl, ?_⟩) hHeld ?_
            rotate_left
            · intro w hSw; (try dsimp only at hSw); go_simp; (try with_reducible rfl)
            try simp only [Act.put, List.setIfInBounds_toArray, List.set_cons_zero, List.set_cons_succ]
            refine wpAnyH_done (by kernel_rfl) ?_ _
            go_wp2_with fail
            go_meet
            exact ⟨rfl, _, _, hT5⟩
          case rest =>
            obtain ⟨rfl, v', u', hT'⟩ := hcut
            have hpl := putL_len R l ky val
            clear hT d0 e0 e1
            generalize putL R l ky val = l' at *
            go_wp2_with (go_at_call 44; refine (rclear_any _ v' R l' _ hT'.s).mono ?_; rintro e w2 ⟨rfl, hs2, hk2⟩; have hT2 := hT'.clearS hs2 hk2; have q1 : w2.cell? ⟨w1.heap.size, 1, none⟩ = some u' := hT2.r.cases.2.1; have q2 := blk_free hT2.r.hd 1; obtain ⟨p2, c2, rfl⟩ := hT2.r.len)
            · go_roundw
              case rel => exact ⟨k + 1, [], _, _, by omega, by go_num, by simp, hT2.clearR⟩
              case measure => simp [intOf]; omega
            · go_roundw
              case rel => exact ⟨k + 1, l', _, _, by omega, by go_num, by omega, hT'⟩
              case measure => simp [intOf]; omega
      · obtain ⟨_, q1, q2⟩ := hT.r.cases
        obtain ⟨pu, cu, rfl⟩ := hT.r.len
        have HQ2 := Lib.hid q2
        clear q2
        go_wp2_with (go_at_call 36; refine (rkeys_any _ v R l _ hT.s).mono ?_; rintro e w2 ⟨ku, rfl, hown, hnew, hk2⟩; obtain ⟨pk, ck, rfl⟩ := owns_slice hown; have q3 : w2.cell? ⟨w1.heap.size, 1, none⟩ = some (.slice pu l.length cu) := hk2.cell q1 (fun f => f))
        have hT2 := hT.keep hk2
        clear q1 hT
        obtain ⟨wo, rfl⟩ : ∃ wo : World, wo = w2 := ⟨_, rfl⟩
        go_loopw [12] (fun i wr => ∃ k : Nat, k ≤ l.length ∧ i = .int .i64 k ∧ Keeps NoS wo wr) (fun i _ => l.length - (intOf i).toNat)
        case atStart => exact ⟨0, by omega, rfl, Keeps.refl _ _⟩
        case round =>
          obtain ⟨k, hk, rfl, hk3⟩ := hrel
          have q4 := hk3.cell q3 (fun f => f)
          have hT3 := hT2.keep hk3
          by_cases hlt : k < l.length
          · obtain ⟨g, rfl, hkc⟩ := owns_cells hown (by omega)
            have kc := hk3.cell (hkc k _ (keysOf_get l k hlt)) (fun f => f)
            rcases HQ2.out with ⟨_, hnil⟩ | ⟨g2, cap2, hsl, _, _, hcel⟩
            · rw [hnil] at hlt; exact absurd hlt (by simp)
            · simp only [Value.slice.injEq, true_and] at hsl
              obtain ⟨rfl, rfl⟩ := hsl
              have m0 := hk3.cell (hk2.cell (hcel k hlt).1 (fun f => f)) (fun f => f)
              have m1 := hk3.cell (hk2.cell (hcel k hlt).2 (fun f => f)) (fun f => f)
              have hhas : hasKey l (l.getD k (0, 0)).1 = true := by
                simp only [hasKey, List.any_eq_true]
                exact ⟨l.getD k (0, 0), by rw [getD_at _ _ _ hlt]; exact List.getElem_mem _, by simp⟩
              have Hhas := Lib.hid hhas
              have hAt := rat_in w.heap.size v R l k wr.drew (hT3.keep ((Keeps.refl _ _).drew)).s hlt
              have HAt := Lib.hid hAt
              clear hkc hcel hhas hAt hnew HQ2
              generalize (l.getD k (0, 0)).1 = x at *
              generalize (l.getD k (0, 0)).2 = y at *
              go_upto_region 25 with fail
              refine wp_region_held_drew (S := (fun w' => w'.cell? ⟨g, k, none⟩ = some (.int .i64 x) ∧ w'.cell? ⟨w1.heap.size, 1, none⟩ = some (.slice (some ⟨g2, 0, none⟩) l.length cu) ∧ w'.cell? ⟨g2, k * 2, none⟩ = some (.int .i64 x) ∧ w'.cell? ⟨g2, k * 2 + 1, none⟩ = some (.int .i64 y))) (by kernel_rfl) (⟨kc, q4, m0, m1⟩) (fun hHeld => ?_)
              refine wpAnyH_take (i := 0) (v := ?_) (by simp only [List.getElem?_toArray, List.getElem?_cons_succ, List.getElem?_cons_zero]; rfl) (by kernel_rfl) (by kernel_rfl) (by kernel_rfl) (by exact fun _ _ _ h => h) (Or.inl ⟨by rfl, ?_⟩) hHeld ?_
              rotate_left
              · intro w hSw; (try dsimp only at hSw); go_simp; (try with_reducible rfl)
              try simp only [Act.put, List.setIfInBounds_toArray, List.set_cons_zero, List.set_cons_succ]
              refine wpAnyH_take (i := 1) (v := ?_) (by simp only [List.getElem?_toArray, List.getElem?_cons_succ, List.getElem?_cons_zero]; rfl) (by kernel_rfl) (by kernel_rfl) (by kernel_rfl) (by exact fun _ _ _ h => h) (Or.inl ⟨by rfl, ?_⟩) hHeld ?_
              rotate_left
              · intro w hSw; (try dsimp only at hSw); go_simp; (try with_reducible rfl)
              try simp only [Act.put, List.setIfInBounds_toArray, List.set_cons_zero, List.set_cons_succ]
              refine wpAnyH_take (i := 2) (v := ?_) (by simp only [List.getElem?_toArray, List.getElem?_cons_succ, List.getElem?_cons_zero]; rfl) (by kernel_rfl) (by kernel_rfl) (by kernel_rfl) (by exact fun _ _ _ h => h) (Or.inl ⟨by rfl, ?_⟩) hHeld ?_
              rotate_left
              · intro w hSw; (try dsimp only at hSw); go_simp; (try with_reducible rfl)
              try simp only [Act.put, List.setIfInBounds_toArray, List.set_cons_zero, List.set_cons_succ]
              refine wpAnyH_take (i := 3) (v := ?_) (by simp only [List.getElem?_toArray, List.getElem?_cons_succ, List.getElem?_cons_zero]; rfl) (by kernel_rfl) (by kernel_rfl) (by kernel_rfl) (by exact fun _ _ _ h => h) (Or.inl ⟨by rfl, ?_⟩) hHeld ?_
              rotate_left
              · intro w hSw; (try dsimp only at hSw); go_simp; (try with_reducible rfl)
              try simp only [Act.put, List.setIfInBounds_toArray, List.set_cons_zero, List.set_cons_succ]
              refine wpAnyH_take (i := 4) (v := ?_) (by simp only [List.getElem?_toArray, List.getElem?_cons_succ, List.getElem?_cons_zero]; rfl) (by kernel_rfl) (by kernel_rfl) (by kernel_rfl) (by exact fun _ _ _ h => h) (Or.inl ⟨by rfl, ?_⟩) hHeld ?_
              rotate_left
              · intro w hSw; (try dsimp only at hSw); go_simp; (try with_reducible rfl)
              try simp only [Act.put, List.setIfInBounds_toArray, List.set_cons_zero, List.set_cons_succ]
              refine wpAnyH_take (i := 5) (v := ?_) (by simp only [List.getElem?_toArray, List.getElem?_cons_succ, List.getElem?_cons_zero]; rfl) (by kernel_rfl) (by kernel_rfl) (by kernel_rfl) (by exact fun _ _ _ h => h) (Or.inl ⟨by rfl, ?_⟩) hHeld ?_
              rotate_left
              · intro w hSw; (try dsimp only at hSw); go_simp; (try with_reducible rfl)
              try simp only [Act.put, List.setIfInBounds_toArray, List.set_cons_zero, List.set_cons_succ]
              refine wpAnyH_take (i := 6) (v := ?_) (by simp only [List.getElem?_toArray, List.getElem?_cons_succ, List.getElem?_cons_zero]; rfl) (by kernel_rfl) (by kernel_rfl) (by kernel_rfl) (by exact fun _ _ _ h => h) (Or.inl ⟨by rfl, ?_⟩) hHeld ?_
              rotate_left
              · intro w hSw; (try dsimp only at hSw); go_simp; (try with_reducible rfl)
              try simp only [Act.put, List.setIfInBounds_toArray, List.set_cons_zero, List.set_cons_succ]
              refine wpAnyH_take (i := 7) (v := ?_) (by simp only [List.getElem?_toArray, List.getElem?_cons_succ, List.getElem?_cons_zero]; rfl) (by kernel_rfl) (by kernel_rfl) (by kernel_rfl) (by exact fun _ _ _ h => h) (Or.inl ⟨by rfl, ?_⟩) hHeld ?_
              rotate_left
              · intro w hSw; (try dsimp only at hSw); go_simp; (try with_reducible rfl)
              try simp only [Act.put, List.setIfInBounds_toArray, List.set_cons_zero, List.set_cons_succ]
              refine wpAnyH_take (i := 8) (v := ?_) (by simp only [List.getElem?_toArray, List.getElem?_cons_succ, List.getElem?_cons_zero]; rfl) (by kernel_rfl) (by kernel_rfl) (by kernel_rfl) (by exact fun _ _ _ h => h) (Or.inl ⟨by rfl, ?_⟩) hHeld ?_
              rotate_left
              · intro w hSw; (try dsimp only at hSw); go_simp; (try with_reducible rfl)
              try simp only [Act.put, List.setIfInBounds_toArray, List.set_cons_zero, List.set_cons_succ]
              refine wpAnyH_take (i := 9) (v := ?_) (by simp only [List.getElem?_toArray, List.getElem?_cons_succ, List.getElem?_cons_zero]; rfl) (by kernel_rfl) (by kernel_rfl) (by kernel_rfl) (by exact fun _ _ _ h => h) (Or.inl ⟨by rfl, ?_⟩) hHeld ?_
              rotate_left
              · intro w hSw; (try dsimp only at hSw); go_simp; (try with_reducible rfl)
              try simp only [Act.put, List.setIfInBounds_toArray, List.set_cons_zero, List.set_cons_succ]
              refine wpAnyH_take (i := 10) (v := ?_) (by simp only [List.getElem?_toArray, List.getElem?_cons_succ, List.getElem?_cons_zero]; rfl) (by kernel_rfl) (by kernel_rfl) (by kernel_rfl) (by exact fun _ _ _ h => h) (Or.inl ⟨by rfl, ?_⟩) hHeld ?_
              rotate_left
              · intro w hSw; (try dsimp only at hSw); go_simp; (try with_reducible rfl)
              try simp only [Act.put, List.setIfInBounds_toArray, List.set_cons_zero, List.set_cons_succ]
              refine wpAnyH_take (i := 11) (v := ?_) (by simp only [List.getElem?_toArray, List.getElem?_cons_succ, List.getElem?_cons_zero]; rfl) (by kernel_rfl) (by kernel_rfl) (by kernel_rfl) (by exact fun _ _ _ h => h) (Or.inl ⟨by rfl, ?_⟩) hHeld ?_
              rotate_left
              · intro w hSw; (try dsimp only at hSw); go_simp; (try with_reducible rfl)
              try simp only [Act.put, List.setIfInBounds_toArray, List.set_cons_zero, List.set_cons_succ]
              refine wpAnyH_take (i := 12) (v := ?_) (by simp only [List.getElem?_toArray, List.getElem?_cons_succ, List.getElem?_cons_zero]; rfl) (by kernel_rfl) (by kernel_rfl) (by kernel_rfl) (by exact fun _ _ _ h => h) (Or.inl ⟨by rfl, ?_⟩) hHeld ?_
              rotate_left
              · intro w hSw; (try dsimp only at hSw); go_simp; (try with_reducible rfl)
              try simp only [Act.put, List.setIfInBounds_toArray, List.set_cons_zero, List.set_cons_succ]
              refine wpAnyH_take (i := 13) (v := ?_) (by simp only [List.getElem?_toArray, List.getElem?_cons_succ, List.getElem?_cons_zero]; rfl) (by kernel_rfl) (by kernel_rfl) (by kernel_rfl) (by exact fun _ _ _ h => h) (Or.inl ⟨by rfl, ?_⟩) hHeld ?_
              rotate_left
              · intro w hSw; (try dsimp only at hSw); go_simp; (try with_reducible rfl)
              try simp only [Act.put, List.setIfInBounds_toArray, List.set_cons_zero, List.set_cons_succ]
              refine wpAnyH_take (i := 14) (v := ?_) (by simp only [List.getElem?_toArray, List.getElem?_cons_succ, List.getElem?_cons_zero]; rfl) (by kernel_rfl) (by kernel_rfl) (by kernel_rfl) (by exact fun _ _ _ h => h) (Or.inl ⟨by rfl, ?_⟩) hHeld ?_
              rotate_left
              · intro w hSw; (try dsimp only at hSw); go_simp; (try with_reducible rfl)
              try simp only [Act.put, List.setIfInBounds_toArray, List.set_cons_zero, List.set_cons_succ]
              refine wpAnyH_take (i := 15) (v := ?_) (by simp only [List.getElem?_toArray, List.getElem?_cons_succ, List.getElem?_cons_zero]; rfl) (by kernel_rfl) (by kernel_rfl) (by kernel_rfl) (by exact fun _ _ _ h => h) (Or.inl ⟨by rfl, ?_⟩) hHeld ?_
              rotate_left
              · intro w hSw; (try dsimp only at hSw); go_simp; (try with_reducible rfl)
              try simp only [Act.put, List.setIfInBounds_toArray, List.set_cons_zero, List.set_cons_succ]
              refine wpAnyH_take (i := 17) (v := ?_) (by simp only [List.getElem?_toArray, List.getElem?_cons_succ, List.getElem?_cons_zero]; rfl) (by kernel_rfl) (by kernel_rfl) (by kernel_rfl) (by exact fun _ _ _ h => h) (Or.inl ⟨by rfl, ?_⟩) hHeld ?_
              rotate_left
              · intro w hSw; (try dsimp only at hSw); go_simp; (try with_reducible rfl)
              try simp only [Act.put, List.setIfInBounds_toArray, List.set_cons_zero, List.set_cons_succ]
              refine wpAnyH_take (i := 18) (v := ?_) (by simp only [List.getElem?_toArray, List.getElem?_cons_succ, List.getElem?_cons_zero]; rfl) (by kernel_rfl) (by kernel_rfl) (by kernel_rfl) (by exact fun _ _ _ h => h) (Or.inl ⟨by rfl, ?_⟩) hHeld ?_
              rotate_left
              · intro w hSw; (try dsimp only at hSw); go_simp; (try with_reducible rfl)
              try simp only [Act.put, List.setIfInBounds_toArray, List.set_cons_zero, List.set_cons_succ]
              refine wpAnyH_take (i := 19) (v := ?_) (by simp only [List.getElem?_toArray, List.getElem?_cons_succ, List.getElem?_cons_zero]; rfl) (by kernel_rfl) (by kernel_rfl) (by kernel_rfl) (by exact fun _ _ _ h => h) (Or.inl ⟨by rfl, ?_⟩) hHeld ?_
              rotate_left
              · intro w hSw; (try dsimp only at hSw); go_simp; (try with_reducible rfl)
              try simp only [Act.put, List.setIfInBounds_toArray, List.set_cons_zero, List.set_cons_succ]
              refine wpAnyH_take (i := 20) (v := ?_) (by simp only [List.getElem?_toArray, List.getElem?_cons_succ, List.getElem?_cons_zero]; rfl) (by kernel_rfl) (by kernel_rfl) (by kernel_rfl) (by exact fun _ _ _ h => h) (Or.inl ⟨by rfl, ?_⟩) hHeld ?_
              rotate_left
              · intro w hSw; (try dsimp only at hSw); go_simp; (try with_reducible rfl)
              try simp only [Act.put, List.setIfInBounds_toArray, List.set_cons_zero, List.set_cons_succ]
              refine wpAnyH_take (i := 21) (v := ?_) (by simp only [List.getElem?_toArray, List.getElem?_cons_succ, List.getElem?_cons_zero]; rfl) (by kernel_rfl) (by kernel_rfl) (by kernel_rfl) (by exact fun _ _ _ h => h) (Or.inl ⟨by rfl, ?_⟩) hHeld ?_
              rotate_left
              · intro w hSw; (try dsimp only at hSw); go_simp; (try with_reducible rfl)
              try simp only [Act.put, List.setIfInBounds_toArray, List.set_cons_zero, List.set_cons_succ]
              refine wpAnyH_take (i := 22) (v := ?_) (by simp only [List.getElem?_toArray, List.getElem?_cons_succ, List.getElem?_cons_zero]; rfl) (by kernel_rfl) (by kernel_rfl) (by kernel_rfl) (by exact fun _ _ _ h => h) (Or.inl ⟨by rfl, ?_⟩) hHeld ?_
              rotate_left
              · intro w hSw; (try dsimp only at hSw); go_simp; (try with_reducible rfl)
              try simp only [Act.put, List.setIfInBounds_toArray, List.set_cons_zero, List.set_cons_succ]
              refine wpAnyH_take (i := 23) (v := ?_) (by simp only [List.getElem?_toArray, List.getElem?_cons_succ, List.getElem?_cons_zero]; rfl) (by kernel_rfl) (by kernel_rfl) (by kernel_rfl) (by exact fun _ _ _ h => h) (Or.inl ⟨by rfl, ?_⟩) hHeld ?_
              rotate_left
              · intro w hSw; (try dsimp only at hSw); go_simp; (try with_reducible rfl)
              try simp only [Act.put, List.setIfInBounds_toArray, List.set_cons_zero, List.set_cons_succ]
              refine wpAnyH_ready (rs := [16]) (by kernel_rfl) (by simp) ?_
              refine AllReadyH.cons (by simp only [List.getElem?_toArray, List.getElem?_cons_succ, List.getElem?_cons_zero]; rfl) (fun kC hkC => ?_) AllReadyH.nil
              go_simp
              refine HAt.out.mono ?_; rintro e w4 ⟨rfl, hk4⟩; have hT4 := (hT3.keep ((Keeps.refl _ _).drew)).keep hk4
              (try go_wp2_with fail)
              refine hkC.out _ _ (⟨hk4.cell kc (fun f => f), hk4.cell q4 (fun f => f), hk4.cell m0 (fun f => f), hk4.cell m1 (fun f => f)⟩) (fun hHeld => ?_)
              clear hkC kC
              try simp only [Act.put, List.setIfInBounds_toArray, List.set_cons_zero, List.set_cons_succ]
              refine wpAnyH_take (i := 24) (v := ?_) (by simp only [List.getElem?_toArray, List.getElem?_cons_succ, List.getElem?_cons_zero]; rfl) (by kernel_rfl) (by kernel_rfl) (by kernel_rfl) (by exact fun _ _ _ h => h) (Or.inl ⟨by rfl, ?_⟩) hHeld ?_
              rotate_left
              · intro w hSw; (try dsimp only at hSw); go_simp; (try with_reducible rfl)
              try simp only [Act.put, List.setIfInBounds_toArray, List.set_cons_zero, List.set_cons_succ]
              refine wpAnyH_take (i := 25) (v := ?_) (by simp only [List.getElem?_toArray, List.getElem?_cons_succ, List.getElem?_cons_zero]; rfl) (by kernel_rfl) (by kernel_rfl) (by kernel_rfl) (by exact fun _ _ _ h => h) (Or.inl ⟨by rfl, ?_⟩) hHeld ?_
              rotate_left
              · intro w hSw; (try dsimp only at hSw); go_simp; (try with_reducible rfl)
              try simp only [Act.put, List.setIfInBounds_toArray, List.set_cons_zero, List.set_cons_succ]
              refine wpAnyH_take (i := 26) (v := ?_) (by simp only [List.getElem?_toArray, List.getElem?_cons_succ, List.getElem?_cons_zero]; rfl) (by kernel_rfl) (by kernel_rfl) (by kernel_rfl) (by exact fun _ _ _ h => h) (Or.inl ⟨by rfl, ?_⟩) hHeld ?_
              rotate_left
              · intro w hSw; (try dsimp only at hSw); go_simp; (try with_reducible rfl)
              try simp only [Act.put, List.setIfInBounds_toArray, List.set_cons_zero, List.set_cons_succ]
              refine wpAnyH_take (i := 27) (v := ?_) (by simp only [List.getElem?_toArray, List.getElem?_cons_succ, List.getElem?_cons_zero]; rfl) (by kernel_rfl) (by kernel_rfl) (by kernel_rfl) (by exact fun _ _ _ h => h) (Or.inl ⟨by rfl, ?_⟩) hHeld ?_
              rotate_left
              · intro w hSw; (try dsimp only at hSw); go_simp; (try with_reducible rfl)
              try simp only [Act.put, List.setIfInBounds_toArray, List.set_cons_zero, List.set_cons_succ]
              refine wpAnyH_take (i := 28) (v := ?_) (by simp only [List.getElem?_toArray, List.getElem?_cons_succ, List.getElem?_cons_zero]; rfl) (by kernel_rfl) (by kernel_rfl) (by kernel_rfl) (by exact fun _ _ _ h => h) (Or.inl ⟨by rfl, ?_⟩) hHeld ?_
              rotate_left
              · intro w hSw; (try dsimp only at hSw); go_simp; (try with_reducible rfl)
              try simp only [Act.put, List.setIfInBounds_toArray, List.set_cons_zero, List.set_cons_succ]
              refine wpAnyH_take (i := 29) (v := ?_) (by simp only [List.getElem?_toArray, List.getElem?_cons_succ, List.getElem?_cons_zero]; rfl) (by kernel_rfl) (by kernel_rfl) (by kernel_rfl) (by exact fun _ _ _ h => h) (Or.inl ⟨by rfl, ?_⟩) hHeld ?_
              rotate_left
              · intro w hSw; (try dsimp only at hSw); go_simp; (try with_reducible rfl)
              try simp only [Act.put, List.setIfInBounds_toArray, List.set_cons_zero, List.set_cons_succ]
              refine wpAnyH_take (i := 30) (v := ?_) (by simp only [List.getElem?_toArray, List.getElem?_cons_succ, List.getElem?_cons_zero]; rfl) (by kernel_rfl) (by kernel_rfl) (by kernel_rfl) (by exact fun _ _ _ h => h) (Or.inl ⟨by rfl, ?_⟩) hHeld ?_
              rotate_left
              · intro w hSw; (try dsimp only at hSw); go_simp; (try with_reducible rfl)
              try simp only [Act.put, List.setIfInBounds_toArray, List.set_cons_zero, List.set_cons_succ]
              refine wpAnyH_take (i := 31) (v := ?_) (by simp only [List.getElem?_toArray, List.getElem?_cons_succ, List.getElem?_cons_zero]; rfl) (by kernel_rfl) (by kernel_rfl) (by kernel_rfl) (by exact fun _ _ _ h => h) (Or.inl ⟨by rfl, ?_⟩) hHeld ?_
              rotate_left
              · intro w hSw; (try dsimp only at hSw); go_simp; (try with_reducible rfl)
              try simp only [Act.put, List.setIfInBounds_toArray, List.set_cons_zero, List.set_cons_succ]
              refine wpAnyH_ready (rs := [32]) (by kernel_rfl) (by simp) ?_
              refine AllReadyH.cons (by simp only [List.getElem?_toArray, List.getElem?_cons_succ, List.getElem?_cons_zero]; rfl) (fun kC hkC => ?_) AllReadyH.nil
              go_simp
              refine (rhas_any w.heap.size v R l x _ hT4.s).mono ?_; rw [Hhas.out]; rintro e w5 ⟨rfl, hk5⟩
              (try go_wp2_with fail)
              refine hkC.out _ _ (⟨hk5.cell (hk4.cell kc (fun f => f)) (fun f => f), hk5.cell (hk4.cell q4 (fun f => f)) (fun f => f), hk5.cell (hk4.cell m0 (fun f => f)) (fun f => f), hk5.cell (hk4.cell m1 (fun f => f)) (fun f => f)⟩) (fun hHeld => ?_)
              clear hkC kC
              try simp only [Act.put, List.setIfInBounds_toArray, List.set_cons_zero, List.set_cons_succ]
              refine wpAnyH_take (i := 33) (v := ?_) (by simp only [List.getElem?_toArray, List.getElem?_cons_succ, List.getElem?_cons_zero]; rfl) (by kernel_rfl) (by kernel_rfl) (by kernel_rfl) (by exact fun _ _ _ h => h) (Or.inl ⟨by rfl, ?_⟩) hHeld ?_
              rotate_left
              · intro w hSw; (try dsimp only at hSw); go_simp; (try with_reducible rfl)
              try simp only [Act.put, List.setIfInBounds_toArray, List.set_cons_zero, List.set_cons_succ]
              refine wpAnyH_take (i := 34) (v := ?_) (by simp only [List.getElem?_toArray, List.getElem?_cons_succ, List.getElem?_cons_zero]; rfl) (by kernel_rfl) (by kernel_rfl) (by kernel_rfl) (by exact fun _ _ _ h => h) (Or.inl ⟨by rfl, ?_⟩) hHeld ?_
              rotate_left
              · intro w hSw; (try dsimp only at hSw); go_simp; (try with_reducible rfl)
              try simp only [Act.put, List.setIfInBounds_toArray, List.set_cons_zero, List.set_cons_succ]
              refine wpAnyH_done (by kernel_rfl) ?_ _
              go_wp2
              go_roundw
              case rel => exact ⟨k + 1, by omega, by go_num, ((hk3.trans ((Keeps.refl _ _).drew)).trans hk4).trans hk5⟩
              case measure => simp [intOf]; omega
          · obtain rfl : k = l.length := by omega
            go_wp2_with (first
              | (go_at_call 29; refine (told13_any _).mono ?_; rintro e w5 ⟨rfl, hk5⟩; have hT5 := hT3.keep hk5; have q5 := hk5.cell q4 (fun f => f))
              | (go_at_call 32; refine (rat_past _ v R l l.length _ hT6.s (Nat.le_refl _)).mono ?_; rintro e w7 ⟨rfl, hk7⟩; have hT7 := hT6.keep hk7)
              | (go_at_call 32; refine (rat_neg _ v R l _ _ hT5.s (by decide)).mono ?_; rintro e w6 ⟨rfl, hk6⟩; have hT6 := hT5.keep hk6; have q6 := hk6.cell q5 (fun f => f))
              | (go_at_call 34; refine (rroom_any _ v R l _ _ hT7.s).mono ?_; rintro e w8 ⟨rfl, hk8⟩; have hT8 := hT7.keep hk8)
              | (go_at_call 42; refine (fRoom_any _ _ R l _ _ hT8.r).mono ?_; rintro e w9 ⟨rfl, hk9⟩))
            go_ret
            exact ⟨by simp, hT8.kp.trans hk9⟩

set_option maxRecDepth 100000 in
theorem readsAsks_walk (w : World) (a0 : Int) (_w0 : (Lit.int .i64 a0).wf = true) (v1 : Value) (l1 : List (Int × Int)) (h1 : InW w v1 l1) (_f1 : ∀ k, k < l1.length → (Lit.int .i64 (l1.getD k (0, 0)).1).wf = true ∧ (Lit.int .i64 (l1.getD k (0, 0)).2).wf = true) (a2 : Int) (_w2 : (Lit.int .i64 a2).wf = true) :
    Calls Try.prog 9 #[.int .i64 a0, v1, .int .i64 a2] w fun e w' => e = .returned (.bool true) ∧ Keeps NoS w w' := by
  by_cases h60 : l1.length ≤ 60
  · exact readsAsks_main w a0 v1 l1 h1 a2 h60
  · obtain ⟨p, cap, rfl, hm, _⟩ := h1
    go_enter Try.func9, Try.ntmps9
    go_wp2_with (go_at_call 29; refine (told13_any _).mono ?_; rintro e w1 ⟨rfl, hk1⟩)
    go_ret
    exact ⟨rfl, hk1⟩
end Go.Proofs.Ytldleacoajlinaa
