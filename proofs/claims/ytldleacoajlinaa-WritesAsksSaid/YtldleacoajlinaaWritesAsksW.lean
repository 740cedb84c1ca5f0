/- The walk of WritesAsks. -/
import Derived.Test.YtldleacoajlinaaWritesRef
import Derived.Test.YtldleacoajlinaaIn2
import Derived.Deep.DeepCutAuto
import Derived.Deep.RegionHeld3
namespace Go.Proofs.Ytldleacoajlinaa
open Go.RowKit
/-- the program's set at block a, the document's at block c, both a law's own -/
def WF (w wr : World) (a c : Nat) (room A B : Int) (l l' : List (Int × Int)) : Prop :=
  ∃ v u, WrAt wr a v room l A ∧ FwAt wr c u room B l' ∧ w.heap.size ≤ a ∧ w.heap.size ≤ c ∧ (∀ g, v.ownBlock = some g → w.heap.size ≤ g) ∧ (∀ g, u.ownBlock = some g → w.heap.size ≤ g) ∧
    a ≠ c ∧ v.ownBlock ≠ some c ∧ u.ownBlock ≠ some a ∧ (∀ g, v.ownBlock = some g → u.ownBlock ≠ some g) ∧ Keeps NoS w wr
theorem WrAt.own_lt {w : World} {a : Nat} {v : Value} {room A : Int} {l : List (Int × Int)} (h : WrAt w a v room l A) {g : Nat} (hg : v.ownBlock = some g) : g < w.heap.size := (h.ow.lt g hg).2
theorem FwAt.own_lt {w : World} {a : Nat} {v : Value} {room A : Int} {l : List (Int × Int)} (h : FwAt w a v room A l) {g : Nat} (hg : v.ownBlock = some g) : g < w.heap.size := (h.ow.lt g hg).2
theorem WF.kept {w wr : World} {a c : Nat} {room A B : Int} {l l' : List (Int × Int)} (h : WF w wr a c room A B l l') : Keeps NoS w wr := by
  obtain ⟨v, u, _, _, _, _, _, _, _, _, _, _, h⟩ := h; exact h
theorem WF.keep {w wr w' : World} {a c : Nat} {room A B : Int} {l l' : List (Int × Int)} (h : WF w wr a c room A B l l') (k : Keeps NoS wr w') : WF w w' a c room A B l l' := by
  obtain ⟨v, u, h1, h2, h3, h4, h5, h6, h7, h8, h9, h10, h11⟩ := h
  exact ⟨v, u, h1.keep k (fun f => f) (fun _ _ f => f), h2.keep k (fun f => f) (fun _ _ f => f), h3, h4, h5, h6, h7, h8, h9, h10, h11.trans k⟩
theorem WF.drew {w wr : World} {a c : Nat} {room A B : Int} {l l' : List (Int × Int)} (h : WF w wr a c room A B l l') : WF w wr.drew a c room A B l l' := h.keep ((Keeps.refl NoS wr).drew)
theorem WF.put {w wr : World} {a c : Nat} {room A B : Int} {l l' : List (Int × Int)} (h : WF w wr a c room A B l l') (hsm : l.length < 4096) (k x : Int) :
    Calls Try.prog 47 #[.pointer (some ⟨a, 0, none⟩), .int .i64 k, .int .i64 x] wr fun e w' => e = .returned (.bool (putOk room l k)) ∧ WF w w' a c room A B (putW room l k x) l' := by
  obtain ⟨v, u, h1, h2, h3, h4, h5, h6, h7, h8, h9, h10, h11⟩ := h
  have hc := blk_lt h2.hd
  have ha := blk_lt h1.hd
  refine (wput_any a v room A l k x wr h1 hsm).mono ?_
  rintro e w' ⟨he, v', hv, hk, hn⟩
  refine ⟨he, v', u, hv, h2.keep hk ?_ ?_, h3, h4, fun g hg => (hn g hg).elim (h5 g) (fun h => Nat.le_trans h11.size h), h6, h7, ?_, h9, ?_, h11.trans' hk (fun i hi ht => ?_)⟩
  · rintro (e | e)
    · exact h7 e.symm
    · exact h8 e
  · rintro g hg (e | e)
    · exact h9 (e ▸ hg)
    · exact h10 g e hg
  · intro e
    rcases hn c e with h | h
    · exact h8 h
    · omega
  · intro g hg hu
    rcases hn g hg with h | h
    · exact h10 g h hu
    · have := h2.own_lt hu; omega
  · rcases ht with rfl | e
    · omega
    · have := h5 i e; omega
theorem WF.fput {w wr : World} {a c : Nat} {room A B : Int} {l l' : List (Int × Int)} (h : WF w wr a c room A B l l') (hsm : l'.length < 4096) (k x : Int) :
    Calls Try.prog 61 #[.pointer (some ⟨c, 0, none⟩), .int .i64 k, .int .i64 x] wr fun e w' => e = .returned (.bool (putOk room l' k)) ∧ WF w w' a c room A B l (putW room l' k x) := by
  obtain ⟨v, u, h1, h2, h3, h4, h5, h6, h7, h8, h9, h10, h11⟩ := h
  have hc := blk_lt h2.hd
  have ha := blk_lt h1.hd
  refine (fwput_any c u room B l' k x wr h2 hsm).mono ?_
  rintro e w' ⟨he, u', hv, hk, hn⟩
  refine ⟨he, v, u', h1.keep hk ?_ ?_, hv, h3, h4, h5, fun g hg => (hn g hg).elim (h6 g) (fun h => Nat.le_trans h11.size h), h7, h8, ?_, ?_, h11.trans' hk (fun i hi ht => ?_)⟩
  · rintro (e | e)
    · exact h7 e
    · exact h9 e
  · rintro g hg (e | e)
    · exact h8 (e ▸ hg)
    · exact h10 g hg e
  · intro e
    rcases hn a e with h | h
    · exact h9 h
    · omega
  · intro g hg hu
    rcases hn g hu with h | h
    · exact h10 g hg h
    · have := h1.own_lt hg; omega
  · rcases ht with rfl | e
    · omega
    · have := h6 i e; omega
theorem WF.get {w wr : World} {a c : Nat} {room A B : Int} {l l' : List (Int × Int)} (h : WF w wr a c room A B l l') (k : Int) :
    Calls Try.prog 48 #[.pointer (some ⟨a, 0, none⟩), .int .i64 k] wr fun e w' => e = .returned (.tuple #[.int .i64 (getW l k), .bool (hasW l k)]) ∧ WF w w' a c room (askedL l k A) B l l' := by
  obtain ⟨v, u, h1, h2, h3, h4, h5, h6, h7, h8, h9, h10, h11⟩ := h
  refine (wget_any a v room A l k wr h1).mono ?_
  rintro e w' ⟨he, hv, hk⟩
  refine ⟨he, v, u, hv, h2.keep hk (fun e => h7 e) (fun g hg e => h9 (by rw [hg]; exact congrArg some e.symm)), h3, h4, h5, h6, h7, h8, h9, h10, h11.trans' hk (fun i hi ht => ?_)⟩
  have : a = i := ht
  omega
theorem WF.fget {w wr : World} {a c : Nat} {room A B : Int} {l l' : List (Int × Int)} (h : WF w wr a c room A B l l') (k : Int) :
    Calls Try.prog 60 #[.pointer (some ⟨c, 0, none⟩), .int .i64 k] wr fun e w' => e = .returned (.tuple #[.int .i64 (getW l' k), .bool (hasW l' k)]) ∧ WF w w' a c room A (askedL l' k B) l l' := by
  obtain ⟨v, u, h1, h2, h3, h4, h5, h6, h7, h8, h9, h10, h11⟩ := h
  refine (fget_any c u room B l' k wr h2).mono ?_
  rintro e w' ⟨he, hv, hk⟩
  refine ⟨he, v, u, h1.keep hk (fun e => h7 e) (fun g hg e => h8 (by rw [hg]; exact congrArg some e)), hv, h3, h4, h5, h6, h7, h8, h9, h10, h11.trans' hk (fun i hi ht => ?_)⟩
  have : i = c := ht
  omega
theorem WF.clear {w wr : World} {a c : Nat} {room A B : Int} {l l' : List (Int × Int)} (h : WF w wr a c room A B l l') :
    Calls Try.prog 59 #[.pointer (some ⟨a, 0, none⟩)] wr fun e w' => e = .returned (.tuple #[]) ∧ WF w w' a c room 0 B [] l' := by
  obtain ⟨v, u, h1, h2, h3, h4, h5, h6, h7, h8, h9, h10, h11⟩ := h
  refine (wclear_any a v room A l wr h1).mono ?_
  rintro e w' ⟨he, hv, hk⟩
  refine ⟨he, _, u, hv, h2.keep hk (fun e => h7 e.symm) (fun g hg e => h9 (by rw [hg]; exact congrArg some e)), h3, h4, by simp [Value.ownBlock], h6, h7, by simp [Value.ownBlock], h9, by simp [Value.ownBlock], h11.trans' hk (fun i hi ht => ?_)⟩
  have : i = a := ht
  omega
theorem WF.fclear {w wr : World} {a c : Nat} {room A B : Int} {l l' : List (Int × Int)} (h : WF w wr a c room A B l l') :
    WF w ((wr.setCell ⟨c, 2, none⟩ (.slice none 0 0)).setCell ⟨c, 1, none⟩ (.int .i64 0)) a c room A 0 l [] := by
  obtain ⟨v, u, h1, h2, h3, h4, h5, h6, h7, h8, h9, h10, h11⟩ := h
  have hk := ((Keeps.refl (just1 c) wr).setCell (p := ⟨c, 2, none⟩) (fun _ => rfl) (.slice none 0 0)).setCell (p := ⟨c, 1, none⟩) (fun _ => rfl) (.int .i64 0)
  refine ⟨v, .slice none 0 0, h1.keep hk (fun e => h7 e) (fun g hg e => h8 (by rw [hg]; exact congrArg some e)), ⟨?_, World.ownsRow_nil _ _ _ _, by simp [Value.ownBlock], by simp, by simp⟩, h3, h4, h5, by simp [Value.ownBlock], h7, h8, by simp [Value.ownBlock], by simp [Value.ownBlock], h11.trans' hk (fun i hi ht => ?_)⟩
  · rw [blk_set (blk_set h2.hd 2 _) 1 _]; rfl
  · have : i = c := ht
    omega
theorem WF.fcells {w wr : World} {a c : Nat} {room A B : Int} {l l' : List (Int × Int)} (h : WF w wr a c room A B l l') :
    (∃ p cp, wr.cell? ⟨c, 2, none⟩ = some (.slice p l'.length cp)) ∧ wr.cell? ⟨c, 1, none⟩ = some (.int .i64 B) ∧ wr.frozen? ⟨c, 1, none⟩ = false ∧ wr.frozen? ⟨c, 2, none⟩ = false := by
  obtain ⟨v, u, h1, h2, _⟩ := h
  obtain ⟨_, c1, c2⟩ := h2.cells
  obtain ⟨p, cp, rfl⟩ := h2.slice
  exact ⟨⟨p, cp, c2⟩, c1, blk_free h2.hd 1, blk_free h2.hd 2⟩
theorem Keeps.dn (w : World) (n : Nat) : Keeps NoS w (w.drewN n) := (Keeps.refl NoS w).drewN n
theorem WF.looks {w wr : World} {a c : Nat} {room A B : Int} {l l' : List (Int × Int)} (h : WF w wr a c room A B l l') (q : Nat) :
    (Calls Try.prog 58 #[.pointer (some ⟨a, 0, none⟩)] (wr.drewN q) fun e w' => e = .returned (.int .i64 l.length) ∧ w' = wr.drewN q) ∧
    (Calls Try.prog 50 #[.pointer (some ⟨a, 0, none⟩)] (wr.drewN q) fun e w' => e = .returned (.int .u64 (filterOf l : Int)) ∧ w' = wr.drewN q) ∧
    (Calls Try.prog 49 #[.pointer (some ⟨a, 0, none⟩)] (wr.drewN q) fun e w' => e = .returned (.int .i64 A) ∧ w' = wr.drewN q) ∧
    (Calls Try.prog 62 #[.pointer (some ⟨c, 0, none⟩)] (wr.drewN q) fun e w' => e = .returned (.int .u64 (filterOf l' : Int)) ∧ w' = wr.drewN q) := by
  have h := h.keep (Keeps.dn wr q)
  obtain ⟨v, u, h1, h2, _⟩ := h
  exact ⟨(wlen_any a v room A l _ h1).mono fun _ _ ⟨h, e⟩ => ⟨h, e.symm⟩, (wfilter_any a v room A l _ h1).mono fun _ _ ⟨h, e⟩ => ⟨h, e.symm⟩, (wasked_any a v room A l _ h1).mono fun _ _ ⟨h, e⟩ => ⟨h, e.symm⟩, (ffilter_any c u room B l' _ h2).mono fun _ _ ⟨h, e⟩ => ⟨h, e.symm⟩⟩
set_option maxHeartbeats 2000000 in
set_option maxRecDepth 100000 in
theorem writesAsks_main (w : World) (a0 : Int) (v1 : Value) (L : NRows) (hin : InN 3 w v1 L) (h80 : L.len ≤ 80) :
    Calls Try.prog 15 #[.int .i64 a0, v1] w fun e w' => e = .returned (.bool true) ∧ Keeps NoS w w' := by
  obtain ⟨p, cap, rfl, hmax, hcell⟩ := hin
  have Hc := Lib.hid hcell
  clear hcell
  go_enter Try.func15, Try.ntmps15
  go_upto_if 22 with fail
  go_cut [0] (fun n wx => ∃ z : Int, n = .int .i64 z ∧ w = wx)
  case first =>
    go_wp2
    all_goals (go_meet; exact ⟨_, rfl, rfl⟩)
  case rest =>
    obtain ⟨z, rfl, rfl⟩ := hcut
    obtain ⟨R, hR⟩ : ∃ r, min (max z 0) 32 = r := ⟨_, rfl⟩
    have HR := Lib.hid hR
    clear hR
    go_wp2_with (first
      | (go_at_call 46; refine (wnew_any z w).mono ?_; rw [HR.out]; rintro e w1 ⟨rfl, hs, hk, hz⟩)
      | (go_at_call 41; refine (cap_any z _).mono ?_; rw [HR.out]; rintro e w2 ⟨rfl, rfl⟩))
    have hT : WF w (w1.alloc (.cells #[.int .i64 R, .int .i64 0, .slice none 0 0] 77)) w.heap.size w1.heap.size R 0 0 [] [] :=
      ⟨.slice none 0 0, .slice none 0 0, hs.keep ((Keeps.refl NoS _).alloc _) (fun f => f) (fun _ _ f => f), ⟨heap_alloc_new _ _, World.ownsRow_nil _ _ _ _, by simp [Value.ownBlock], by simp, by simp⟩,
        Nat.le_refl _, by omega, by simp [Value.ownBlock], by simp [Value.ownBlock], by omega, by simp [Value.ownBlock], by simp [Value.ownBlock], by simp [Value.ownBlock], hk.alloc _⟩
    have HT := Lib.hid hT
    obtain ⟨a, ha⟩ : ∃ a, w.heap.size = a := ⟨_, rfl⟩
    obtain ⟨c, hc⟩ : ∃ c, w1.heap.size = c := ⟨_, rfl⟩
    rw [ha, hc] at HT
    clear hs hk hT hz
    go_loopw [7] (fun i wr => ∃ (k : Nat) (A : Int) (l : List (Int × Int)), k ≤ L.len ∧ i = .int .i64 k ∧ l.length ≤ k ∧ WF w wr a c R A A l l) (fun i _ => L.len - (intOf i).toNat)
    case atStart => exact ⟨0, 0, [], by omega, rfl, by simp, HT.out⟩
    case round =>
      rw [ha, hc]
      clear HT HR
      obtain ⟨k, A, l, hk, rfl, hl, hT⟩ := hrel
      by_cases hlt : k < L.len
      · obtain ⟨b, off, rfl, hcell⟩ := Hc.out (by omega)
        have g0 := (hcell k hlt 0 (by decide)).1
        rw [Nat.add_zero] at g0
        have g1 := (hcell k hlt 1 (by decide)).1
        have g2 := (hcell k hlt 2 (by decide)).1
        clear hcell
        generalize L.F k 0 = kind at *
        generalize L.F k 1 = at0 at *
        generalize L.F k 2 = val at *
        have c0 := hT.kept.cell g0 (fun f => f)
        have c1 := hT.kept.cell g1 (fun f => f)
        have c2 := hT.kept.cell g2 (fun f => f)
        go_upto_if 49 with fail
        go_cut [8] (fun s wx => ∃ y : Int, s = .int .i64 y ∧ wr = wx)
        case first =>
          go_wp2
          all_goals (go_meet; exact ⟨_, rfl, rfl⟩)
        case rest =>
          obtain ⟨y, rfl, rfl⟩ := hcut
          clear g1 c1
          obtain ⟨q1, q2⟩ := u64_tmod_bd kind 16 (by decide)
          obtain ⟨r, hr⟩ : ∃ r : Nat, (IntKind.u64.wrap kind).tmod 16 = (r : Int) := Int.eq_ofNat_of_zero_le q1
          rw [hr] at q1 q2
          have tj : ∀ j : Int, (r : Int) ≠ j → ((r : Int) == j) = false := fun j h => beq_eq_false_iff_ne.2 h
          have TJ := Lib.hid tj
          clear tj
          by_cases hr0 : r = 0
          · subst hr0
            go_wp2_with (go_at_call 59; refine (hT.clear).mono ?_; rintro e w2 ⟨rfl, hT2⟩; obtain ⟨⟨pu, cu, d2⟩, d1, f1, f2⟩ := hT2.fcells)
            have hW := hT2.fclear
            clear hT hT2 d1 d2 f1 f2 c0 c2
            generalize (w2.setCell ⟨c, 2, none⟩ (.slice none 0 0)).setCell ⟨c, 1, none⟩ (.int .i64 0) = W at *
            have HQ := Lib.hid (fun q => hW.looks q)
            obtain ⟨⟨pw, cw, x2⟩, x1, _, _⟩ := hW.fcells
            go_quiet ((first
              | (go_at_call 58; exact Calls.quiet_of_same (HQ.out _).1)
              | (go_at_call 50; exact Calls.quiet_of_same (HQ.out _).2.1)
              | (go_at_call 49; exact Calls.quiet_of_same (HQ.out _).2.2.1)
              | (go_at_call 62; exact Calls.quiet_of_same (HQ.out _).2.2.2)))
            go_wp2_with fail
            go_roundw
            case rel => exact ⟨k + 1, _, _, by omega, by go_num, by simp, hW.keep (Keeps.dn _ _)⟩
            case measure => simp [intOf]; omega
          · have t0 := TJ.out 0 (by omega)
            by_cases hr6 : r ≤ 6
            · obtain ⟨gv, hgv⟩ : ∃ gv, getW l y = gv := ⟨_, rfl⟩
              obtain ⟨gb, hgb⟩ : ∃ gb, hasW l y = gb := ⟨_, rfl⟩
              have HG := Lib.hid hgv; have HB := Lib.hid hgb
              clear hgv hgb
              have h6 : r = 1 ∨ r = 2 ∨ r = 3 ∨ r = 4 ∨ r = 5 ∨ r = 6 := by omega
              clear hr0 hr6 t0 TJ
              rcases h6 with rfl | rfl | rfl | rfl | rfl | rfl
              all_goals
                go_wp2_with (first
                  | (go_at_call 48; refine (hT.get y).mono ?_; rw [HG.out, HB.out]; rintro e w2 ⟨rfl, hT2⟩)
                  | (go_at_call 60; refine (hT2.fget y).mono ?_; rw [HG.out, HB.out]; rintro e w3 ⟨rfl, hW⟩))
                clear hT hT2 c0 c2
                have HQ := Lib.hid (fun q => hW.looks q)
                obtain ⟨⟨pw, cw, x2⟩, x1, _, _⟩ := hW.fcells
                go_quiet ((first
                  | (go_at_call 58; exact Calls.quiet_of_same (HQ.out _).1)
                  | (go_at_call 50; exact Calls.quiet_of_same (HQ.out _).2.1)
                  | (go_at_call 49; exact Calls.quiet_of_same (HQ.out _).2.2.1)
                  | (go_at_call 62; exact Calls.quiet_of_same (HQ.out _).2.2.2)))
                go_wp2_with fail
                go_roundw
                case rel => exact ⟨k + 1, _, _, by omega, by go_num, by omega, hW.keep (Keeps.dn _ _)⟩
                case measure => simp [intOf]; omega
            · have t1 := TJ.out 1 (by omega)
              have t2 := TJ.out 2 (by omega)
              have t3 := TJ.out 3 (by omega)
              have t4 := TJ.out 4 (by omega)
              have t5 := TJ.out 5 (by omega)
              have t6 := TJ.out 6 (by omega)
              have hl1 : l.length < 4096 := by omega
              obtain ⟨ok, hok⟩ : ∃ ok, putOk R l y = ok := ⟨_, rfl⟩
              have HOK := Lib.hid hok
              have hlen := putW_len R l y val
              clear hr0 hr6 TJ hok
              go_wp2_with fail
              go_region_held3 (fun w' => w'.cell? ⟨b, off + k * 3 + 2, none⟩ = some (.int .i64 val)) (first | exact c2 | exact c3 | exact c4) (first
                | (go_at_call 47; refine (hT.drew.put hl1 y val).mono ?_; rw [HOK.out]; rintro e w2 ⟨rfl, hT2⟩; have c3 := hT2.kept.cell g2 (fun f => f))
                | (go_at_call 61; refine (hT2.fput hl1 y val).mono ?_; rw [HOK.out]; rintro e w3 ⟨rfl, hW⟩; have c4 := hW.kept.cell g2 (fun f => f)))
              clear hT hT2 c0 c2 t0 t1 t2 t3 t4 t5 t6
              go_wp2_with fail
              have HQ := Lib.hid (fun q => hW.looks q)
              obtain ⟨⟨pw, cw, x2⟩, x1, _, _⟩ := hW.fcells
              go_quiet ((first
                | (go_at_call 58; exact Calls.quiet_of_same (HQ.out _).1)
                | (go_at_call 50; exact Calls.quiet_of_same (HQ.out _).2.1)
                | (go_at_call 49; exact Calls.quiet_of_same (HQ.out _).2.2.1)
                | (go_at_call 62; exact Calls.quiet_of_same (HQ.out _).2.2.2)))
              go_wp2_with fail
              go_roundw
              case rel => exact ⟨k + 1, _, _, by omega, by go_num, by omega, hW.keep (Keeps.dn _ _)⟩
              case measure => simp [intOf]; omega
      · obtain rfl : k = L.len := by omega
        have hT' := hT
        obtain ⟨v, u, s1, s2, _⟩ := hT'
        have hlist := wlist_any a v R A l wr s1
        have HLI := Lib.hid hlist
        have HS2 := Lib.hid s2
        have HK0 := Lib.hid hT.kept
        clear hlist s1 s2 hlt hT
        go_wp2_with (go_at_call 57; refine (HLI.out).mono ?_; rintro e w2 ⟨x, rfl, ho, _, hk2⟩; have s3 := HS2.out.keep hk2 (fun f => f) (fun _ _ f => f); have HK := Lib.hid (HK0.out.trans hk2); obtain ⟨px, cx, rfl⟩ := owns_slice ho; obtain ⟨pw, cw, rfl⟩ := s3.slice; have x2 := s3.cells.2.2; have HO := Lib.hid ho; have HU := Lib.hid s3.ow; clear ho s3 hk2 HS2 HK0)
        go_loopw [14] (fun i wq => ∃ j q : Nat, j ≤ l.length ∧ i = .int .i64 j ∧ wq = w2.drewN q) (fun i _ => l.length - (intOf i).toNat)
        case atStart => exact ⟨0, 0, by omega, rfl, rfl⟩
        case round =>
          obtain ⟨j, q, hj, rfl, rfl⟩ := hrel
          by_cases hlt : j < l.length
          · rcases owns_words HO.out with ⟨_, rfl⟩ | ⟨g, cap1, hv1, _, _, hc1⟩
            · simp at hlt
            rcases owns_words HU.out with ⟨_, rfl⟩ | ⟨g', cap2, hv2, _, _, hc2⟩
            · simp at hlt
            simp only [Value.slice.injEq, true_and] at hv1 hv2
            obtain ⟨rfl, rfl⟩ := hv1
            obtain ⟨rfl, rfl⟩ := hv2
            obtain ⟨m1, m2⟩ := hc1 j hlt
            obtain ⟨m3, m4⟩ := hc2 j hlt
            clear hc1 hc2
            generalize (l.getD j (0, 0)).1 = e1 at *
            generalize (l.getD j (0, 0)).2 = e2 at *
            go_wp2_with fail
            go_quiet (fail)
            go_wp2_with fail
            go_roundw
            case rel => exact ⟨j + 1, _, by omega, by go_num, rfl⟩
            case measure => simp [intOf]; omega
          · obtain rfl : j = l.length := by omega
            go_wp2_with (go_at_call 45; refine (told14_any _).mono ?_; rintro e w3 ⟨rfl, hk3⟩)
            go_ret
            exact ⟨rfl, (HK.out.trans (Keeps.dn _ _)).trans hk3⟩
set_option maxRecDepth 100000 in
theorem writesAsks_walk (w : World) (a0 : Int) (_w0 : (Lit.int .i64 a0).wf = true) (v1 : Value) (L : NRows) (hin : InN 3 w v1 L) :
    Calls Try.prog 15 #[.int .i64 a0, v1] w fun e w' => e = .returned (.bool true) ∧ Keeps NoS w w' := by
  by_cases h : L.len ≤ 80
  · exact writesAsks_main w a0 v1 L hin h
  · obtain ⟨p, cap, rfl, hmax, _⟩ := hin
    go_enter Try.func15, Try.ntmps15
    go_wp2_with (go_at_call 45; refine (told14_any _).mono ?_; rintro e w3 ⟨rfl, hk3⟩)
    go_ret
    exact ⟨rfl, hk3⟩
end Go.Proofs.Ytldleacoajlinaa
