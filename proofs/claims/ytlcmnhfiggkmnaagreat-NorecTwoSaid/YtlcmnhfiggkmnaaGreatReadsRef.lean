/- The document's own reads set (syncoperef8.Reads), each function with what it computes; two sets side by side. -/
import Derived.Test.YtlcmnhfiggkmnaaGreatReadsPut
import Derived.Test.YtlcmnhfiggkmnaaGreatFindL
import Derived.Deep.RegionWith
import Derived.Deep.RegionHeld3
import Derived.Deep.DeepCutAuto
namespace Go.Proofs.YtlcmnhfiggkmnaaGreat
open Go.RowKit

/-- In the midst of a region: S may be made stronger. -/
theorem wpAnyH_mono {P : Program} {md : Region.Mode} {ops : Array Oper} {Q : Exit → Act → World → Prop} {S S' : World → Prop} (hs : ∀ w, S' w → S w) :
    ∀ (fuel : Nat) (listed : Array Bool) (a : Act) (w : World), wpAnyH P md ops Q S' fuel listed a w → wpAnyH P md ops Q S fuel listed a w
  | 0, _, _, _, h => h
  | fuel + 1, _, _, _, h => ⟨h.1, fun i hi => wpOp_mono (fun a' w' h' => ⟨hs _ h'.1, wpAnyH_mono hs fuel _ a' w' h'.2⟩) (h.2 i hi)⟩

/-- the document's reads set -/
abbrev RRef := WSet 70

/-- a slice of words as the walks read it -/
def SliceW (w : World) (v : Value) (l : List (Int × Int)) : Prop :=
  (v = .slice none 0 0 ∧ l = []) ∨ ∃ g cap, v = .slice (some ⟨g, 0, none⟩) l.length cap ∧ l.length ≤ 4096 ∧
      (∀ k, k < l.length → w.cell? ⟨g, k * 2, none⟩ = some (.int .i64 (l.getD k (0, 0)).1) ∧ w.cell? ⟨g, k * 2 + 1, none⟩ = some (.int .i64 (l.getD k (0, 0)).2))
theorem WSet.slice {T : TypeId} {w : World} {a : Nat} {v : Value} {room : Int} {l : List (Int × Int)} (h : WSet T w a v room l) : SliceW w v l := by
  obtain ⟨_, _, h1 | ⟨g, cap, h1, h2, h3, h4⟩⟩ := h.cases
  · exact .inl h1
  · exact .inr ⟨g, cap, h1, h.small, h4⟩
theorem kfind_any (v : Value) (l : List (Int × Int)) (key : Int) (w : World) (hs : SliceW w v l) :
    Calls Tryz.prog 84 #[v, .int .i64 key] w fun e w' => e = .returned (.int .i64 (findL l key)) ∧ w = w' := by
  rcases hs with ⟨rfl, rfl⟩ | ⟨g, cap, rfl, hsm, hcell⟩
  · go_enter Tryz.func84, Tryz.ntmps84
    go_wp2
    go_loop [5] (fun i => i = .int .i64 0) (fun _ => 0)
    case atStart => rfl
    case round =>
      subst hrel
      go_wp2
      go_ret
      exact ⟨rfl, rfl⟩
  · have Hc := Lib.hid hcell
    clear hcell
    go_enter Tryz.func84, Tryz.ntmps84
    go_wp2
    go_loop [5] (fun i => ∃ k : Nat, k ≤ l.length ∧ i = .int .i64 k ∧ (∀ x ∈ l.take k, x.1 ≠ key)) (fun i => l.length - (intOf i).toNat)
    case atStart => exact ⟨0, by omega, rfl, by simp⟩
    case round =>
      obtain ⟨k, hk, rfl, hno⟩ := hrel
      by_cases hlt : k < l.length
      · obtain ⟨d0, d1⟩ := Hc.out k hlt
        have Hno' := Lib.hid (any_take_succ l key k hlt hno)
        have Hs := Lib.hid (fun h => findL_some l key k hlt h hno)
        clear hno
        generalize (l.getD k (0, 0)).1 = x at *
        generalize (l.getD k (0, 0)).2 = y at *
        go_wp2
        · have hb : (x == key) = true := by assumption
          go_ret
          exact ⟨congrArg _ (congrArg _ (Hs.out (by simpa using hb)).symm), rfl⟩
        · have hb : (x == key) = false := by assumption
          go_round
          case rel => exact ⟨k + 1, by omega, by go_num, Hno'.out (by simpa using hb)⟩
          case measure => simp [intOf]; omega
      · have hf := findL_none l key (fun x hx => hno x (by rw [List.take_of_length_le (by omega)]; exact hx))
        have Hf := Lib.hid hf
        clear hf hno
        go_wp2
        go_ret
        exact ⟨congrArg _ (congrArg _ Hf.out.symm), rfl⟩

theorem cap_any (n : Int) (w : World) : Calls Tryz.prog 78 #[.int .i64 n] w fun e w' => e = .returned (.int .i64 (min (max n 0) 32)) ∧ w = w' := by
  by_cases h0 : 0 ≤ n <;> by_cases h1 : n ≤ 32
  all_goals first
    | (exfalso; omega)
    | skip
  · have e : min (max n 0) 32 = n := by omega
    rw [e]; clear e
    go_enter Tryz.func78, Tryz.ntmps78
    go_wp2
    all_goals (go_ret; first | exact ⟨rfl, rfl⟩ | (refine ⟨retI ?_, rfl⟩; omega))
  · have e : min (max n 0) 32 = 32 := by omega
    rw [e]; clear e
    go_enter Tryz.func78, Tryz.ntmps78
    go_wp2
    all_goals (go_ret; first | exact ⟨rfl, rfl⟩ | (refine ⟨retI ?_, rfl⟩; omega))
  · have e : min (max n 0) 32 = 0 := by omega
    rw [e]; clear e
    go_enter Tryz.func78, Tryz.ntmps78
    go_wp2
    all_goals (go_ret; first | exact ⟨rfl, rfl⟩ | (refine ⟨retI ?_, rfl⟩; omega))
theorem fRoom_any (a : Nat) (v : Value) (room : Int) (l : List (Int × Int)) (key : Int) (w : World) (hs : RRef w a v room l) :
    Calls Tryz.prog 48 #[.pointer (some ⟨a, 0, none⟩), .int .i64 key] w fun e w' => e = .returned (.bool (roomFor room l key)) ∧ Keeps NoS w w' := by
  obtain ⟨c0, c1, _⟩ := hs.cases
  have hsl := hs.slice
  obtain ⟨p, c, rfl⟩ := hs.len
  have Q : ∀ n, Calls Tryz.prog 84 #[.slice p l.length c, .int .i64 key] (w.drewN n) fun e w' => e = .returned (.int .i64 (findL l key)) ∧ w' = w.drewN n := fun n => (kfind_any _ l key (w.drewN n) hsl).mono fun _ _ ⟨he, hw⟩ => ⟨he, hw.symm⟩
  have hfh := findL_has l key
  have Q := Lib.hid Q
  by_cases h : hasKey l key = true
  · have hr : roomFor room l key = true := by simp [roomFor, h]
    rw [hr]
    have hd : decide (0 ≤ findL l key) = true := by simpa using hfh.1.2 h
    clear hr hs hfh hsl h
    generalize findL l key = F at *
    go_enter Tryz.func48, Tryz.ntmps48
    go_wp2
    go_quiet ((go_at_call 84; exact Calls.quiet_of_same (Q.out _)))
    go_wp2
    go_ret
    exact ⟨rfl, (Keeps.refl _ _).drewN _⟩
  · have h : hasKey l key = false := by simpa using h
    have hr : roomFor room l key = decide ((l.length : Int) < room) := by simp [roomFor, h]
    rw [hr]
    have hd : decide (0 ≤ findL l key) = false := by have := hfh.2.2 h; simp; omega
    clear hr hs hfh hsl h
    generalize findL l key = F at *
    go_enter Tryz.func48, Tryz.ntmps48
    go_wp2
    go_quiet ((go_at_call 84; exact Calls.quiet_of_same (Q.out _)))
    go_wp2
    go_ret
    exact ⟨rfl, (Keeps.refl _ _).drewN _⟩

theorem fPut_full (a : Nat) (v : Value) (room : Int) (l : List (Int × Int)) (k x : Int) (w : World) (hs : RRef w a v room l) (h : roomFor room l k = false) :
    Calls Tryz.prog 108 #[.pointer (some ⟨a, 0, none⟩), .int .i64 k, .int .i64 x] w fun e w' => e = .returned (.bool false) ∧ Keeps NoS w w' := by
  have H := Lib.hid h; clear h
  go_enter Tryz.func108, Tryz.ntmps108
  go_wp2_with (go_at_call 48; refine (fRoom_any a v room l k w hs).mono ?_; rw [H.out]; rintro e w' ⟨rfl, hk⟩)
  go_ret
  exact ⟨rfl, hk⟩
theorem fPut_has (a : Nat) (v : Value) (room : Int) (l : List (Int × Int)) (k x : Int) (w : World) (hs : RRef w a v room l) (h : hasKey l k = true) :
    Calls Tryz.prog 108 #[.pointer (some ⟨a, 0, none⟩), .int .i64 k, .int .i64 x] w fun e w' => e = .returned (.bool true) ∧ Keeps NoS w w' := by
  have h2 : roomFor room l k = true := by simp [roomFor, h]
  have H2 := Lib.hid h2
  have hfh := (findL_has l k).1.2 h
  clear h h2
  go_enter Tryz.func108, Tryz.ntmps108
  go_wp2_with fail
  refine (fRoom_any a v room l k w hs).mono ?_
  rw [H2.out]; rintro e w1 ⟨rfl, hk⟩
  have hs1 := hs.keep hk (fun f => f) (fun _ _ f => f)
  have hsl := hs1.slice
  obtain ⟨_, c1, _⟩ := hs1.cases
  obtain ⟨p, c, rfl⟩ := hs1.len
  go_wp2_with (go_at_call 84; refine (kfind_any _ l k _ hsl).mono ?_; rintro e w2 ⟨rfl, rfl⟩)
  go_ret
  exact ⟨rfl, hk⟩
set_option maxHeartbeats 400000 in
set_option maxRecDepth 100000 in
theorem fPut_new (a : Nat) (v : Value) (room : Int) (l : List (Int × Int)) (k x : Int) (w : World) (hs : RRef w a v room l) (h : hasKey l k = false) (h2 : (l.length : Int) < room) (hsm : l.length < 4096) :
    Calls Tryz.prog 108 #[.pointer (some ⟨a, 0, none⟩), .int .i64 k, .int .i64 x] w fun e w' => e = .returned (.bool true) ∧
      ∃ v', RRef w' a v' room (l ++ [(k, x)]) ∧ Keeps (own2 a v) w w' ∧ ∀ g, v'.ownBlock = some g → v.ownBlock = some g ∨ w.heap.size ≤ g := by
  have h3 : roomFor room l k = true := by simp [roomFor, h2]
  have H2 := Lib.hid h3
  have hfh := (findL_has l k).2.2 h
  clear h h2 h3
  obtain ⟨i0, hi, hz0, hz1, hz2⟩ := info_parts infoWord
  go_enter Tryz.func108, Tryz.ntmps108
  go_wp2_with fail
  refine (fRoom_any a v room l k w hs).mono ?_
  rw [H2.out]; rintro e w2 ⟨rfl, hk⟩
  have hs2 := hs.keep hk (fun f => f) (fun _ _ f => f)
  have hsl := hs2.slice
  have c1 : w2.cell? ⟨a, 1, none⟩ = some v := by rw [blk_cell hs2.hd]; rfl
  have d2 : ∀ u ∈ [Value.int .i64 k, .int .i64 x], u.oneCell' = true := by simp [Value.oneCell']
  have b3 : l.length + 1 ≤ maxLen := by unfold maxLen; omega
  obtain ⟨p0, c0, hv0⟩ := hs2.len
  have HV := Lib.hid hv0
  clear hv0
  go_wp2_with (first
    | (go_at_call 84; refine (kfind_any _ l k _ hsl).mono ?_; rintro e w2 ⟨rfl, rfl⟩)
    | (at_builtin; refine wpList_append_fp _ rfl _ _ 65 rfl 97 i0 (.agg #[.int .i64 0, .int .i64 0]) 2 16 Tryz.underlying65 hi hz0 hz1 hz2 rfl (by decide) v l.length (flat l) rfl (hs2.ow.alloc _) ⟨w2.heap.size, 0, none⟩ 1 1 [.int .i64 k, .int .i64 x] rfl rfl (cells_new _ _ _) d2 b3 (by omega) ?_; intro v' w3 hown hgr hob; have hput := wset_put hs2 hsm hown hgr hob; have e0 : w3.heap[a]? = some (.cells #[.int .i64 room, v] 70 (0, 0)) := (by rw [hgr.block a (by have := blk_lt hs2.hd; simp; omega) (fun e => hs2.ne e.symm), Below.heap_alloc _ _ _ (blk_lt hs2.hd)]; exact hs2.hd); have e1 : w3.cell? ⟨a, 1, none⟩ = some v := (by rw [blk_cell e0]; rfl); have e2 := blk_free e0 1; obtain ⟨p', c', rfl⟩ := owns_slice hown; clear e0 hown hgr hob c1 d2 b3 hi hz0 hz1 hz2))
  go_ret
  exact ⟨rfl, _, hput.1, hk.no.trans hput.2.1, fun g hg => (hput.2.2 g hg).imp id (fun h => Nat.le_trans hk.size h)⟩
end Go.Proofs.YtlcmnhfiggkmnaaGreat
