/- The functions of package reads, each with what it computes and what it does to memory. -/
import Derived.Test.YtlcmnhfiggkmnaaGreatRows
import Derived.Test.YtlcmnhfiggkmnaaGreatBase
import Derived.WalkKit
import Derived.WalkSpells
import Derived.Deep.QuietTactic
import Derived.BigQuiet
import Derived.Outline
import Derived.Deep.RegionHeld3
namespace Go.Proofs.YtlcmnhfiggkmnaaGreat
open Go.RowKit

/-- words as they lie in memory: place, value, place, value .. -/
def flat (l : List (Int × Int)) : List Value := l.flatMap fun x => [.int .i64 x.1, .int .i64 x.2]
theorem flat_len (l : List (Int × Int)) : (flat l).length = l.length * 2 := by
  induction l with
  | nil => rfl
  | cons x l ih => simp [flat] at ih ⊢; omega
theorem flat_at (l : List (Int × Int)) (k : Nat) (h : k < l.length) : (flat l)[k * 2]? = some (.int .i64 (l.getD k (0, 0)).1) ∧ (flat l)[k * 2 + 1]? = some (.int .i64 (l.getD k (0, 0)).2) := by
  induction l generalizing k with
  | nil => simp at h
  | cons x l ih =>
    cases k with
    | zero => simp [flat]
    | succ k =>
      have := ih k (by simpa using h)
      simp only [flat, List.flatMap_cons, List.cons_append, List.nil_append, List.getD_cons_succ] at this ⊢
      rw [show (k + 1) * 2 = k * 2 + 1 + 1 from by omega, show k * 2 + 1 + 1 + 1 = (k * 2 + 1) + 1 + 1 from by omega]
      simpa using this
theorem flat_snoc (l : List (Int × Int)) (x : Int × Int) : flat (l ++ [x]) = flat l ++ [.int .i64 x.1, .int .i64 x.2] := by simp [flat]

/-- A struct of a number and of a slice of words at block a (a reads.Set: its room, its words in order); the slice's value is v. -/
structure WSet (T : TypeId) (w : World) (a : Nat) (v : Value) (room : Int) (l : List (Int × Int)) : Prop where
  hd : w.heap[a]? = some (.cells #[.int .i64 room, v] T (0, 0))
  ow : w.ownsRow 0 97 2 v l.length (flat l)
  ne : v.ownBlock ≠ some a
  small : l.length ≤ 4096

theorem WSet.keep {T : TypeId} {w w' : World} {a : Nat} {v : Value} {room : Int} {l : List (Int × Int)} {S : Nat → Prop} (h : WSet T w a v room l) (k : Keeps S w w') (ha : ¬ S a) (hv : ∀ g, v.ownBlock = some g → ¬ S g) : WSet T w' a v room l :=
  ⟨k.blk h.hd ha, k.owns h.ow hv, h.ne, h.small⟩

/-- what the walks read of a set -/
theorem WSet.cases {T : TypeId} {w : World} {a : Nat} {v : Value} {room : Int} {l : List (Int × Int)} (h : WSet T w a v room l) :
    w.cell? ⟨a, 0, none⟩ = some (.int .i64 room) ∧ w.cell? ⟨a, 1, none⟩ = some v ∧
    ((v = .slice none 0 0 ∧ l = []) ∨ ∃ g cap, v = .slice (some ⟨g, 0, none⟩) l.length cap ∧ g < w.heap.size ∧ g ≠ a ∧
      (∀ k, k < l.length → w.cell? ⟨g, k * 2, none⟩ = some (.int .i64 (l.getD k (0, 0)).1) ∧ w.cell? ⟨g, k * 2 + 1, none⟩ = some (.int .i64 (l.getD k (0, 0)).2))) := by
  refine ⟨by rw [blk_cell h.hd]; rfl, by rw [blk_cell h.hd]; rfl, ?_⟩
  rcases h.ow.2 with ⟨hv, hn⟩ | ⟨g, cap, cur, hv, hb, hg, hn, hm, hs, ht⟩
  · exact .inl ⟨hv, List.eq_nil_of_length_eq_zero hn⟩
  · refine .inr ⟨g, cap, hv, blk_lt hg, fun e => h.ne (by rw [hv, e]; rfl), fun k hk => ?_⟩
    have hf := flat_at l k hk
    rw [blk_cell hg, blk_cell hg]
    rw [← ht] at hf
    constructor
    · have := hf.1; rw [List.getElem?_take, if_pos (by omega)] at this; simpa using this
    · have := hf.2; rw [List.getElem?_take, if_pos (by omega)] at this; simpa using this

/-- a reads.Set -/
abbrev RSet := WSet 107
def hasKey (l : List (Int × Int)) (k : Int) : Bool := l.any fun x => x.1 == k

theorem rhas_nil (k : Int) (w : World) : Calls Tryz.prog 81 #[.pointer none, .int .i64 k] w fun e w' => e = .returned (.bool false) ∧ w = w' := by
  go_enter Tryz.func81, Tryz.ntmps81
  go_wp2
  go_ret
  exact ⟨rfl, rfl⟩

theorem any_take_succ (l : List (Int × Int)) (key : Int) (k : Nat) (hk : k < l.length) (h : ∀ x ∈ l.take k, x.1 ≠ key) (h2 : (l.getD k (0, 0)).1 ≠ key) : ∀ x ∈ l.take (k + 1), x.1 ≠ key := by
  intro x hx
  rw [List.take_succ_eq_append_getElem hk] at hx
  rcases List.mem_append.1 hx with hx | hx
  · exact h x hx
  · simp at hx; subst hx; simpa [hk] using h2

set_option maxHeartbeats 400000 in
theorem rhas_any (a : Nat) (v : Value) (room : Int) (l : List (Int × Int)) (key : Int) (w : World) (hs : RSet w a v room l) :
    Calls Tryz.prog 81 #[.pointer (some ⟨a, 0, none⟩), .int .i64 key] w fun e w' => e = .returned (.bool (hasKey l key)) ∧ Keeps NoS w w' := by
  obtain ⟨c0, c1, hv⟩ := hs.cases
  have hsm := hs.small
  rcases hv with ⟨rfl, rfl⟩ | ⟨g, cap, rfl, hgs, hga, hcell⟩
  · go_enter Tryz.func81, Tryz.ntmps81
    go_wp2
    go_loop [14] (fun i => i = .int .i64 0) (fun _ => 0)
    case atStart => rfl
    case round =>
      subst hrel
      go_wp2
      go_ret
      exact ⟨rfl, Keeps.refl _ _⟩
  · have Hc := Lib.hid hcell
    clear hs hcell
    go_enter Tryz.func81, Tryz.ntmps81
    go_wp2
    go_loopw [14] (fun i wr => ∃ k : Nat, k ≤ l.length ∧ i = .int .i64 k ∧ (∀ x ∈ l.take k, x.1 ≠ key) ∧ Keeps NoS w wr) (fun i _ => l.length - (intOf i).toNat)
    case atStart => exact ⟨0, by omega, rfl, by simp, Keeps.refl _ _⟩
    case round =>
      obtain ⟨k, hk, rfl, hno, hkeep⟩ := hrel
      by_cases hlt : k < l.length
      · have hc := Hc.out k hlt
        have d0 := hkeep.cell hc.1 (fun f => f)
        have d1 := hkeep.cell hc.2 (fun f => f)
        have hno' := any_take_succ l key k hlt hno
        have hmem : ∀ (h : (l.getD k (0, 0)).1 = key), hasKey l key = true := fun h => by
          simp only [hasKey, List.any_eq_true]
          exact ⟨l.getD k (0, 0), by simp [hlt], by simpa using h⟩
        have Hno' := Lib.hid hno'; have Hmem := Lib.hid hmem; have Hno := Lib.hid hno
        clear hno' hmem hno hc c0 c1
        generalize (l.getD k (0, 0)).1 = x at *
        generalize (l.getD k (0, 0)).2 = y at *
        go_wp2
        · have hb : (x == key) = true := by assumption
          go_ret
          exact ⟨congrArg _ (congrArg _ (Hmem.out (by simpa using hb)).symm), hkeep.alloc _⟩
        · have hb : (x == key) = false := by assumption
          go_roundw
          case rel => exact ⟨k + 1, by omega, by go_num, Hno'.out (by simpa using hb), hkeep.alloc _⟩
          case measure => simp [intOf]; omega
      · have hk' : k = l.length := by omega
        have hf : hasKey l key = false := by
          simp only [hasKey, List.any_eq_false]
          intro x hx
          simpa using hno x (by rw [hk', List.take_length]; exact hx)
        have Hf := Lib.hid hf
        clear hf hno c0 c1 hk'
        go_wp2
        go_ret
        exact ⟨congrArg _ (congrArg _ Hf.out.symm), hkeep⟩

theorem rroom_nil (k : Int) (w : World) : Calls Tryz.prog 43 #[.pointer none, .int .i64 k] w fun e w' => e = .returned (.bool false) ∧ Keeps NoS w w' := by
  go_enter Tryz.func43, Tryz.ntmps43
  go_wp2
  go_quiet (fail)
  go_wp2
  go_ret
  exact ⟨rfl, (Keeps.refl _ _).drewN _⟩

def roomFor (room : Int) (l : List (Int × Int)) (k : Int) : Bool := decide ((l.length : Int) < room) || hasKey l k
theorem rroom_any (a : Nat) (v : Value) (room : Int) (l : List (Int × Int)) (key : Int) (w : World) (hs : RSet w a v room l) :
    Calls Tryz.prog 43 #[.pointer (some ⟨a, 0, none⟩), .int .i64 key] w fun e w' => e = .returned (.bool (roomFor room l key)) ∧ Keeps NoS w w' := by
  obtain ⟨c0, c1, hv⟩ := hs.cases
  have hvl : ∃ p c, v = .slice p l.length c := by
    rcases hv with ⟨rfl, rfl⟩ | ⟨g, cap, rfl, _⟩
    · exact ⟨_, _, rfl⟩
    · exact ⟨_, _, rfl⟩
  obtain ⟨p, c, rfl⟩ := hvl
  clear hv
  by_cases h : (l.length : Int) < room
  · have hr : roomFor room l key = true := by simp [roomFor, h]
    rw [hr]
    clear hr hs
    go_enter Tryz.func43, Tryz.ntmps43
    go_wp2
    go_quiet (fail)
    go_wp2
    go_ret
    exact ⟨rfl, (Keeps.refl _ _).drewN _⟩
  · have hr : roomFor room l key = hasKey l key := by simp [roomFor, h]
    rw [hr]
    have hd : decide ((l.length : Int) < room) = false := by simpa using h
    clear hr
    go_enter Tryz.func43, Tryz.ntmps43
    go_wp2
    go_region_held3 (fun w' => w'.cell? ⟨a, 0, none⟩ = some (.int .i64 room) ∧ w'.cell? ⟨a, 1, none⟩ = some (.slice p l.length c)) (first | exact ⟨c0, c1⟩ | exact ⟨hk.cell c0 (fun f => f), hk.cell c1 (fun f => f)⟩)
      (first | (go_at_call 81; refine (rhas_any a _ room l key _ (hs.keep ((Keeps.refl NoS _).drew) (fun f => f) (fun _ _ f => f))).mono ?_; rintro e w' ⟨rfl, hk⟩))
    go_wp2
    go_ret
    exact ⟨rfl, ((Keeps.refl _ _).drew).trans hk⟩

theorem rput_nil (k x : Int) (w : World) : Calls Tryz.prog 93 #[.pointer none, .int .i64 k, .int .i64 x] w fun e w' => e = .returned (.bool false) ∧ Keeps NoS w w' := by
  go_enter Tryz.func93, Tryz.ntmps93
  go_wp2_with (go_at_call 43; refine (rroom_nil k w).mono ?_; rintro e w' ⟨rfl, hk⟩)
  go_ret
  exact ⟨rfl, hk⟩
theorem rput_full (a : Nat) (v : Value) (room : Int) (l : List (Int × Int)) (k x : Int) (w : World) (hs : RSet w a v room l) (h : roomFor room l k = false) :
    Calls Tryz.prog 93 #[.pointer (some ⟨a, 0, none⟩), .int .i64 k, .int .i64 x] w fun e w' => e = .returned (.bool false) ∧ Keeps NoS w w' := by
  have H := Lib.hid h; clear h
  go_enter Tryz.func93, Tryz.ntmps93
  go_wp2_with (go_at_call 43; refine (rroom_any a v room l k w hs).mono ?_; rw [H.out]; rintro e w' ⟨rfl, hk⟩)
  go_ret
  exact ⟨rfl, hk⟩
theorem rput_has (a : Nat) (v : Value) (room : Int) (l : List (Int × Int)) (k x : Int) (w : World) (hs : RSet w a v room l) (h : hasKey l k = true) :
    Calls Tryz.prog 93 #[.pointer (some ⟨a, 0, none⟩), .int .i64 k, .int .i64 x] w fun e w' => e = .returned (.bool true) ∧ Keeps NoS w w' := by
  have h2 : roomFor room l k = true := by simp [roomFor, h]
  have H := Lib.hid h; have H2 := Lib.hid h2; clear h h2
  go_enter Tryz.func93, Tryz.ntmps93
  go_wp2_with fail
  refine (rroom_any a v room l k w hs).mono ?_
  rw [H2.out]; rintro e w1 ⟨rfl, hk⟩
  have hs1 := hs.keep hk (fun f => f) (fun _ _ f => f)
  go_wp2_with fail
  refine (rhas_any a v room l k w1 hs1).mono ?_
  rw [H.out]; rintro e w2 ⟨rfl, hk2⟩
  go_wp2_with fail
  go_ret
  exact ⟨rfl, hk.trans hk2⟩
end Go.Proofs.YtlcmnhfiggkmnaaGreat
