/- The functions of package reads, each with what it computes and what it does to memory. -/
import Derived.Test.YtfmamedkiaimpaaRows
import Derived.Test.YtfmamedkiaimpaaBase
import Derived.WalkKit
import Derived.WalkSpells
import Derived.Deep.QuietTactic
import Derived.BigQuiet
import Derived.Outline
import Derived.Deep.RegionHeld3
namespace Go.Proofs.Ytfmamedkiaimpaa
open Go.RowKit

/-- words as they lie in memory: place, value, place, value .. -/
def flat (l : List (Int × Int)) : List Value := l.flatMap fun x => [.int .i64 x.1, .int .i64 x.2]
theorem flat_len (l : List (Int × Int)) : (flat l).length = l.length * 2 := by
  induction l with
  | nil => rfl
  | cons x l ih => simp [flat] at ih ⊢; omega
theorem flat_at (l : List (Int × Int)) (k : Nat) (h : k < l.length) : (flat l)[k * 2]? = some (.int .i64 (l.getD k (0, 0)).1) ∧ (flat l)[k * 2 + 1]? = some (.int .i64 (l.getD k (0, 0)).2) := by
  induction l generalizing k with
  | nil => simp at h
  | cons x l ih =>
    cases k with
    | zero => simp [flat]
    | succ k =>
      have := ih k (by simpa using h)
      simp only [flat, List.flatMap_cons, List.cons_append, List.nil_append, List.getD_cons_succ] at this ⊢
      rw [show (k + 1) * 2 = k * 2 + 1 + 1 from by omega, show k * 2 + 1 + 1 + 1 = (k * 2 + 1) + 1 + 1 from by omega]
      simpa using this
theorem flat_snoc (l : List (Int × Int)) (x : Int × Int) : flat (l ++ [x]) = flat l ++ [.int .i64 x.1, .int .i64 x.2] := by simp [flat]

/-- A struct of a number and of a slice of words at block a (a reads.Set: its room, its words in order); the slice's value is v. -/
structure WSet (T : TypeId) (w : World) (a : Nat) (v : Value) (room : Int) (l : List (Int × Int)) : Prop where
  hd : w.heap[a]? = some (.cells #[.int .i64 room, v] T (0, 0))
  ow : w.ownsRow 0 54 2 v l.length (flat l)
  ne : v.ownBlock ≠ some a
  small : l.length ≤ 4096

theorem WSet.keep {T : TypeId} {w w' : World} {a : Nat} {v : Value} {room : Int} {l : List (Int × Int)} {S : Nat → Prop} (h : WSet T w a v room l) (k : Keeps S w w') (ha : ¬ S a) (hv : ∀ g, v.ownBlock = some g → ¬ S g) : WSet T w' a v room l :=
  ⟨k.blk h.hd ha, k.owns h.ow hv, h.ne, h.small⟩

/-- what the walks read of a set -/
theorem WSet.cases {T : TypeId} {w : World} {a : Nat} {v : Value} {room : Int} {l : List (Int × Int)} (h : WSet T w a v room l) :
    w.cell? ⟨a, 0, none⟩ = some (.int .i64 room) ∧ w.cell? ⟨a, 1, none⟩ = some v ∧
    ((v = .slice none 0 0 ∧ l = []) ∨ ∃ g cap, v = .slice (some ⟨g, 0, none⟩) l.length cap ∧ g < w.heap.size ∧ g ≠ a ∧
      (∀ k, k < l.length → w.cell? ⟨g, k * 2, none⟩ = some (.int .i64 (l.getD k (0, 0)).1) ∧ w.cell? ⟨g, k * 2 + 1, none⟩ = some (.int .i64 (l.getD k (0, 0)).2))) := by
  refine ⟨by rw [blk_cell h.hd]; rfl, by rw [blk_cell h.hd]; rfl, ?_⟩
  rcases h.ow.2 with ⟨hv, hn⟩ | ⟨g, cap, cur, hv, hb, hg, hn, hm, hs, ht⟩
  · exact .inl ⟨hv, List.eq_nil_of_length_eq_zero hn⟩
  · refine .inr ⟨g, cap, hv, blk_lt hg, fun e => h.ne (by rw [hv, e]; rfl), fun k hk => ?_⟩
    have hf := flat_at l k hk
    rw [blk_cell hg, blk_cell hg]
    rw [← ht] at hf
    constructor
    · have := hf.1; rw [List.getElem?_take, if_pos (by omega)] at this; simpa using this
    · have := hf.2; rw [List.getElem?_take, if_pos (by omega)] at this; simpa using this

/-- a reads.Set -/
abbrev RSet := WSet 102
def hasKey (l : List (Int × Int)) (k : Int) : Bool := l.any fun x => x.1 == k

theorem rhas_nil (k : Int) (w : World) : Calls Try.prog 80 #[.pointer none, .int .i64 k] w fun e w' => e = .returned (.bool false) ∧ w = w' := by
  go_enter Try.func80, Try.ntmps80
  go_wp2
  go_ret
  exact ⟨rfl, rfl⟩

theorem any_take_succ (l : List (Int × Int)) (key : Int) (k : Nat) (hk : k < l.length) (h : ∀ x ∈ l.take k, x.1 ≠ key) (h2 : (l.getD k (0, 0)).1 ≠ key) : ∀ x ∈ l.take (k + 1), x.1 ≠ key := by
  intro x hx
  rw [List.take_succ_eq_append_getElem hk] at hx
  rcases List.mem_append.1 hx with hx | hx
  · exact h x hx
  · simp at hx; subst hx; simpa [hk] using h2

set_option maxHeartbeats 400000 in
theorem rhas_any (a : Nat) (v : Value) (room : Int) (l : List (Int × Int)) (key : Int) (w : World) (hs : RSet w a v room l) :
    Calls Try.prog 80 #[.pointer (some ⟨a, 0, none⟩), .int .i64 key] w fun e w' => e = .returned (.bool (hasKey l key)) ∧ Keeps NoS w w' := by
  obtain ⟨c0, c1, hv⟩ := hs.cases
  have hsm := hs.small
  rcases hv with ⟨rfl, rfl⟩ | ⟨g, cap, rfl, hgs, hga, hcell⟩
  · go_enter Try.func80, Try.ntmps80
    go_wp2
    go_loop [14] (fun i => i = .int .i64 0) (fun _ => 0)
    case atStart => rfl
    case round =>
      subst hrel
      go_wp2
      go_ret
      exact ⟨rfl, Keeps.refl _ _⟩
  · have Hc := Lib.hid hcell
    clear hs hcell
    go_enter Try.func80, Try.ntmps80
    go_wp2
    go_loopw [14] (fun i wr => ∃ k : Nat, k ≤ l.length ∧ i = .int .i64 k ∧ (∀ x ∈ l.take k, x.1 ≠ key) ∧ Keeps NoS w wr) (fun i _ => l.length - (intOf i).toNat)
    case atStart => exact ⟨0, by omega, rfl, by simp, Keeps.refl _ _⟩
    case round =>
      obtain ⟨k, hk, rfl, hno, hkeep⟩ := hrel
      by_cases hlt : k < l.length
      · have hc := Hc.out k hlt
        have d0 := hkeep.cell hc.1 (fun f => f)
        have d1 := hkeep.cell hc.2 (fun f => f)
        have hno' := any_take_succ l key k hlt hno
        have hmem : ∀ (h : (l.getD k (0, 0)).1 = key), hasKey l key = true := fun h => by
          simp only [hasKey, List.any_eq_true]
          exact ⟨l.getD k (0, 0), by simp [hlt], by simpa using h⟩
        have Hno' := Lib.hid hno'; have Hmem := Lib.hid hmem; have Hno := Lib.hid hno
        clear hno' hmem hno hc c0 c1
        generalize (l.getD k (0, 0)).1 = x at *
        generalize (l.getD k (0, 0)).2 = y at *
        go_wp2
        · have hb : (x == key) = true := by assumption
          go_ret
          exact ⟨congrArg _ (congrArg _ (Hmem.out (by simpa using hb)).symm), hkeep.alloc _⟩
        · have hb : (x == key) = false := by assumption
          go_roundw
          case rel => exact ⟨k + 1, by omega, by go_num, Hno'.out (by simpa using hb), hkeep.alloc _⟩
          case measure => simp [intOf]; omega
      · have hk' : k = l.length := by omega
        have hf : hasKey l key = false := by
          simp only [hasKey, List.any_eq_false]
          intro x hx
          simpa using hno x (by rw [hk', List.take_length]; exact hx)
        have Hf := Lib.hid hf
        clear hf hno c0 c1 hk'
        go_wp2
        go_ret
        exact ⟨congrArg _ (congrArg _ Hf.out.symm), hkeep⟩

theorem rroom_nil (k : Int) (w : World) : Calls Try.prog 59 #[.pointer none, .int .i64 k] w fun e w' => e = .returned (.bool false) ∧ Keeps NoS w w' := by
  go_enter Try.func59, Try.ntmps59
  go_wp2
  go_quiet (fail)
  go_wp2
  go_ret
  exact ⟨rfl, (Keeps.refl _ _).drewN _⟩

def roomFor (room : Int) (l : List (Int × Int)) (k : Int) : Bool := decide ((l.length : Int) < room) || hasKey l k
theorem rroom_any (a : Nat) (v : Value) (room : Int) (l : List (Int × Int)) (key : Int) (w : World) (hs : RSet w a v room l) :
    Calls Try.prog 59 #[.pointer (some ⟨a, 0, none⟩), .int .i64 key] w fun e w' => e = .returned (.bool (roomFor room l key)) ∧ Keeps NoS w w' := by
  obtain ⟨c0, c1, hv⟩ := hs.cases
  have hvl : ∃ p c, v = .slice p l.length c := by
    rcases hv with ⟨rfl, rfl⟩ | ⟨g, cap, rfl, _⟩
    · exact ⟨_, _, rfl⟩
    · exact ⟨_, _, rfl⟩
  obtain ⟨p, c, rfl⟩ := hvl
  clear hv
  by_cases h : (l.length : Int) < room
  · have hr : roomFor room l key = true := by simp [roomFor, h]
    rw [hr]
    clear hr hs
    go_enter Try.func59, Try.ntmps59
    go_wp2
    go_quiet (fail)
    go_wp2
    go_ret
    exact ⟨rfl, (Keeps.refl _ _).drewN _⟩
  · have hr : roomFor room l key = hasKey l key := by simp [roomFor, h]
    rw [hr]
    have hd : decide ((l.length : Int) < room) = false := by simpa using h
    clear hr
    go_enter Try.func59, Try.ntmps59
    go_wp2
    go_region_held3 (fun w' => w'.cell? ⟨a, 0, none⟩ = some (.int .i64 room) ∧ w'.cell? ⟨a, 1, none⟩ = some (.slice p l.length c)) (first | exact ⟨c0, c1⟩ | exact ⟨hk.cell c0 (fun f => f), hk.cell c1 (fun f => f)⟩)
      (first | (go_at_call 80; refine (rhas_any a _ room l key _ (hs.keep ((Keeps.refl NoS _).drew) (fun f => f) (fun _ _ f => f))).mono ?_; rintro e w' ⟨rfl, hk⟩))
    go_wp2
    go_ret
    exact ⟨rfl, ((Keeps.refl _ _).drew).trans hk⟩

theorem rput_nil (k x : Int) (w : World) : Calls Try.prog 73 #[.pointer none, .int .i64 k, .int .i64 x] w fun e w' => e = .returned (.bool false) ∧ Keeps NoS w w' := by
  go_enter Try.func73, Try.ntmps73
  go_wp2_with (go_at_call 59; refine (rroom_nil k w).mono ?_; rintro e w' ⟨rfl, hk⟩)
  go_ret
  exact ⟨rfl, hk⟩
theorem rput_full (a : Nat) (v : Value) (room : Int) (l : List (Int × Int)) (k x : Int) (w : World) (hs : RSet w a v room l) (h : roomFor room l k = false) :
    Calls Try.prog 73 #[.pointer (some ⟨a, 0, none⟩), .int .i64 k, .int .i64 x] w fun e w' => e = .returned (.bool false) ∧ Keeps NoS w w' := by
  have H := Lib.hid h; clear h
  go_enter Try.func73, Try.ntmps73
  go_wp2_with (go_at_call 59; refine (rroom_any a v room l k w hs).mono ?_; rw [H.out]; rintro e w' ⟨rfl, hk⟩)
  go_ret
  exact ⟨rfl, hk⟩
theorem rput_has (a : Nat) (v : Value) (room : Int) (l : List (Int × Int)) (k x : Int) (w : World) (hs : RSet w a v room l) (h : hasKey l k = true) :
    Calls Try.prog 73 #[.pointer (some ⟨a, 0, none⟩), .int .i64 k, .int .i64 x] w fun e w' => e = .returned (.bool true) ∧ Keeps NoS w w' := by
  have h2 : roomFor room l k = true := by simp [roomFor, h]
  have H := Lib.hid h; have H2 := Lib.hid h2; clear h h2
  go_enter Try.func73, Try.ntmps73
  go_wp2_with fail
  refine (rroom_any a v room l k w hs).mono ?_
  rw [H2.out]; rintro e w1 ⟨rfl, hk⟩
  have hs1 := hs.keep hk (fun f => f) (fun _ _ f => f)
  go_wp2_with fail
  refine (rhas_any a v room l k w1 hs1).mono ?_
  rw [H.out]; rintro e w2 ⟨rfl, hk2⟩
  go_wp2_with fail
  go_ret
  exact ⟨rfl, hk.trans hk2⟩
end Go.Proofs.Ytfmamedkiaimpaa
namespace Go.Proofs.Ytfmamedkiaimpaa
open Go.RowKit
theorem infoWord : (Try.prog.info? 54).map (fun i => (i.zero, i.size, i.bytes)) = some (some (.agg #[.int .i64 0, .int .i64 0]), 2, 16) := by kernel_rfl
/-- what an object turns: its own block, and its list's -/
def own2 (a : Nat) (v : Value) : Nat → Prop := fun k => k = a ∨ v.ownBlock = some k
theorem wset_put {T : TypeId} {w w3 : World} {a : Nat} {v v' : Value} {room : Int} {l : List (Int × Int)} {k x : Int} {o : Obj} (hs : WSet T w a v room l) (hsm : l.length < 4096)
    (hown : w3.ownsRow 0 54 2 v' (l.length + 1) (flat l ++ [.int .i64 k, .int .i64 x])) (hgr : (w.alloc o).grownBy w3 v.ownBlock) (hob : ∀ g, v'.ownBlock = some g → v.ownBlock = some g ∨ g = (w.alloc o).heap.size) :
    WSet T (w3.setCell ⟨a, 1, none⟩ v') a v' room (l ++ [(k, x)]) ∧ Keeps (own2 a v) w (w3.setCell ⟨a, 1, none⟩ v') ∧ ∀ g, v'.ownBlock = some g → v.ownBlock = some g ∨ w.heap.size ≤ g := by
  have ha : w3.heap[a]? = some (.cells #[.int .i64 room, v] T (0, 0)) := by
    rw [hgr.block a (by have := blk_lt hs.hd; simp; omega) (fun e => hs.ne e.symm), Below.heap_alloc _ _ _ (blk_lt hs.hd)]
    exact hs.hd
  have hne : v'.ownBlock ≠ some a := fun e => by
    rcases hob a e with h | h
    · exact hs.ne h
    · have := blk_lt hs.hd; simp at h; omega
  refine ⟨⟨by rw [blk_set ha]; rfl, ?_, hne, by simp; omega⟩, ?_, fun g hg => ?_⟩
  · rw [flat_snoc, List.length_append]
    exact owns_setCell hown hne _
  · exact (((Keeps.refl _ _).alloc _).grown hgr (fun k hk _ => .inr hk)).setCell (fun _ => .inl rfl) _
  · rcases hob g hg with h | h
    · exact .inl h
    · right; simp at h; omega
set_option maxHeartbeats 400000 in
set_option maxRecDepth 100000 in
theorem rput_new (a : Nat) (v : Value) (room : Int) (l : List (Int × Int)) (k x : Int) (w : World) (hs : RSet w a v room l) (h : hasKey l k = false) (h2 : (l.length : Int) < room) (hsm : l.length < 4096) :
    Calls Try.prog 73 #[.pointer (some ⟨a, 0, none⟩), .int .i64 k, .int .i64 x] w fun e w' => e = .returned (.bool true) ∧
      ∃ v', RSet w' a v' room (l ++ [(k, x)]) ∧ Keeps (own2 a v) w w' ∧ ∀ g, v'.ownBlock = some g → v.ownBlock = some g ∨ w.heap.size ≤ g := by
  have h3 : roomFor room l k = true := by simp [roomFor, h2]
  have H := Lib.hid h; have H2 := Lib.hid h3; clear h h2 h3
  obtain ⟨i0, hi, hz0, hz1, hz2⟩ := info_parts infoWord
  go_enter Try.func73, Try.ntmps73
  go_wp2_with fail
  refine (rroom_any a v room l k w hs).mono ?_
  rw [H2.out]; rintro e w1 ⟨rfl, hk⟩
  have hs1 := hs.keep hk (fun f => f) (fun _ _ f => f)
  go_wp2_with fail
  refine (rhas_any a v room l k w1 hs1).mono ?_
  rw [H.out]; rintro e w2 ⟨rfl, hk2⟩
  have hs2 := hs1.keep hk2 (fun f => f) (fun _ _ f => f)
  have c1 : w2.cell? ⟨a, 1, none⟩ = some v := by rw [blk_cell hs2.hd]; rfl
  have d2 : ∀ u ∈ [Value.int .i64 k, .int .i64 x], u.oneCell' = true := by simp [Value.oneCell']
  have b3 : l.length + 1 ≤ maxLen := by unfold maxLen; omega
  go_wp2_with (at_builtin; refine wpList_append_fp _ rfl _ _ 43 rfl 54 i0 (.agg #[.int .i64 0, .int .i64 0]) 2 16 Try.underlying43 hi hz0 hz1 hz2 rfl (by decide) v l.length (flat l) rfl (hs2.ow.alloc _) ⟨w2.heap.size, 0, none⟩ 1 1 [.int .i64 k, .int .i64 x] rfl rfl (cells_new _ _ _) d2 b3 (by omega) ?_; intro v' w3 hown hgr hob; have hput := wset_put hs2 hsm hown hgr hob; have e0 : w3.heap[a]? = some (.cells #[.int .i64 room, v] 102 (0, 0)) := (by rw [hgr.block a (by have := blk_lt hs2.hd; simp; omega) (fun e => hs2.ne e.symm), Below.heap_alloc _ _ _ (blk_lt hs2.hd)]; exact hs2.hd); have e1 : w3.cell? ⟨a, 1, none⟩ = some v := (by rw [blk_cell e0]; rfl); have e2 := blk_free e0 1; obtain ⟨p', c', rfl⟩ := owns_slice hown; clear e0 hown hgr hob c1 d2 b3 hi hz0 hz1 hz2)
  go_ret
  exact ⟨rfl, _, hput.1, (hk.no.trans hk2.no).trans hput.2.1, fun g hg => (hput.2.2 g hg).imp id (fun h => Nat.le_trans (Nat.le_trans hk.size hk2.size) h)⟩

/-- what Put leaves -/
def putL (room : Int) (l : List (Int × Int)) (k x : Int) : List (Int × Int) := if hasKey l k then l else if (l.length : Int) < room then l ++ [(k, x)] else l
/-- A set at block a, all its own, in a world that has kept what w held. -/
def SetIn (w wr : World) (a : Nat) (room : Int) (l : List (Int × Int)) : Prop :=
  ∃ v, RSet wr a v room l ∧ w.heap.size ≤ a ∧ (∀ g, v.ownBlock = some g → w.heap.size ≤ g) ∧ Keeps NoS w wr
theorem SetIn.keep {w wr w' : World} {a : Nat} {room : Int} {l : List (Int × Int)} (h : SetIn w wr a room l) (k : Keeps NoS wr w') : SetIn w w' a room l := by
  obtain ⟨v, h1, h2, h3, h4⟩ := h
  exact ⟨v, h1.keep k (fun f => f) (fun _ _ f => f), h2, h3, h4.trans k⟩
theorem SetIn.kept {w wr : World} {a : Nat} {room : Int} {l : List (Int × Int)} (h : SetIn w wr a room l) : Keeps NoS w wr := by
  obtain ⟨v, h1, h2, h3, h4⟩ := h
  exact h4
theorem SetIn.drew {w wr : World} {a : Nat} {room : Int} {l : List (Int × Int)} (h : SetIn w wr a room l) : SetIn w wr.drew a room l := h.keep ((Keeps.refl _ _).drew)
theorem SetIn.turned {w wr w' : World} {a : Nat} {v v' : Value} {room : Int} {l' : List (Int × Int)} (h2 : w.heap.size ≤ a) (h3 : ∀ g, v.ownBlock = some g → w.heap.size ≤ g) (h4 : Keeps NoS w wr)
    (h : RSet w' a v' room l') (k : Keeps (own2 a v) wr w') (hn : ∀ g, v'.ownBlock = some g → v.ownBlock = some g ∨ wr.heap.size ≤ g) : SetIn w w' a room l' := by
  refine ⟨v', h, h2, fun g hg => (hn g hg).elim (h3 g) (fun h => Nat.le_trans h4.size h), h4.trans' k (fun i hi ht => ?_)⟩
  rcases ht with rfl | ht
  · omega
  · have := h3 i ht; omega
theorem rput_in (w : World) (a : Nat) (room : Int) (l : List (Int × Int)) (k x : Int) (wr : World) (hs : SetIn w wr a room l) (hsm : l.length < 4096) :
    Calls Try.prog 73 #[.pointer (some ⟨a, 0, none⟩), .int .i64 k, .int .i64 x] wr fun e w' => e = .returned (.bool (roomFor room l k)) ∧ SetIn w w' a room (putL room l k x) := by
  have hs' := hs
  obtain ⟨v, h1, h2, h3, h4⟩ := hs'
  by_cases hk : hasKey l k = true
  · have e1 : roomFor room l k = true := by simp [roomFor, hk]
    have e2 : putL room l k x = l := by simp [putL, hk]
    rw [e1, e2]
    exact (rput_has a v room l k x wr h1 hk).mono fun e w' ⟨he, hw⟩ => ⟨he, hs.keep hw⟩
  · have hk : hasKey l k = false := by simpa using hk
    by_cases hr : (l.length : Int) < room
    · have e1 : roomFor room l k = true := by simp [roomFor, hr]
      have e2 : putL room l k x = l ++ [(k, x)] := by simp [putL, hk, hr]
      rw [e1, e2]
      exact (rput_new a v room l k x wr h1 hk hr hsm).mono fun e w' ⟨he, v', hv, hkp, hn⟩ => ⟨he, SetIn.turned h2 h3 h4 hv hkp hn⟩
    · have e1 : roomFor room l k = false := by simp [roomFor, hk, hr]
      have e2 : putL room l k x = l := by simp [putL, hk, hr]
      rw [e1, e2]
      exact (rput_full a v room l k x wr h1 e1).mono fun e w' ⟨he, hw⟩ => ⟨he, hs.keep hw⟩
theorem rroom_in (w : World) (a : Nat) (room : Int) (l : List (Int × Int)) (k : Int) (wr : World) (hs : SetIn w wr a room l) :
    Calls Try.prog 59 #[.pointer (some ⟨a, 0, none⟩), .int .i64 k] wr fun e w' => e = .returned (.bool (roomFor room l k)) ∧ SetIn w w' a room l := by
  have hs' := hs
  obtain ⟨v, h1, h2, h3, h4⟩ := hs'
  exact (rroom_any a v room l k wr h1).mono fun e w' ⟨he, hw⟩ => ⟨he, hs.keep hw⟩
theorem rhas_in (w : World) (a : Nat) (room : Int) (l : List (Int × Int)) (k : Int) (wr : World) (hs : SetIn w wr a room l) :
    Calls Try.prog 80 #[.pointer (some ⟨a, 0, none⟩), .int .i64 k] wr fun e w' => e = .returned (.bool (hasKey l k)) ∧ SetIn w w' a room l := by
  have hs' := hs
  obtain ⟨v, h1, h2, h3, h4⟩ := hs'
  exact (rhas_any a v room l k wr h1).mono fun e w' ⟨he, hw⟩ => ⟨he, hs.keep hw⟩

theorem rnew_any (n : Int) (w : World) : Calls Try.prog 64 #[.int .i64 n] w fun e w' => e = .returned (.pointer (some ⟨w.heap.size, 0, none⟩)) ∧ RSet w' w.heap.size (.slice none 0 0) (min (max n 0) 32) [] ∧ Keeps NoS w w' ∧ w.heap.size < w'.heap.size := by
  have hp : ∀ m : Int, RSet (w.alloc (.cells #[.int .i64 m, .slice none 0 0] 102)) w.heap.size (.slice none 0 0) m [] := fun m => ⟨heap_alloc_new _ _, World.ownsRow_nil _ _ _ _, by simp [Value.ownBlock], by simp⟩
  by_cases h0 : 0 ≤ n <;> by_cases h1 : n ≤ 32
  all_goals first
    | (exfalso; omega)
    | skip
  · have e : min (max n 0) 32 = n := by omega
    rw [e]; clear e
    have hp := Lib.hid (hp n)
    go_enter Try.func64, Try.ntmps64
    go_wp2
    all_goals first
      | (exfalso; omega)
      | (go_ret; exact ⟨rfl, hp.out, (Keeps.refl _ _).alloc _, by simp⟩)
  · have e : min (max n 0) 32 = 32 := by omega
    rw [e]; clear e
    have hp := Lib.hid (hp 32)
    go_enter Try.func64, Try.ntmps64
    go_wp2
    all_goals first
      | (exfalso; omega)
      | (go_ret; exact ⟨rfl, hp.out, (Keeps.refl _ _).alloc _, by simp⟩)
  · have e : min (max n 0) 32 = 0 := by omega
    rw [e]; clear e
    have hp := Lib.hid (hp 0)
    go_enter Try.func64, Try.ntmps64
    go_wp2
    all_goals first
      | (exfalso; omega)
      | (go_ret; exact ⟨rfl, hp.out, (Keeps.refl _ _).alloc _, by simp⟩)

theorem rlen_nil (w : World) : Calls Try.prog 71 #[.pointer none] w fun e w' => e = .returned (.int .i64 0) ∧ w = w' := by
  go_enter Try.func71, Try.ntmps71
  go_wp2
  go_ret
  exact ⟨rfl, rfl⟩
theorem WSet.len {T : TypeId} {w : World} {a : Nat} {v : Value} {room : Int} {l : List (Int × Int)} (h : WSet T w a v room l) : ∃ p c, v = .slice p l.length c := owns_slice h.ow
theorem rlen_any (a : Nat) (v : Value) (room : Int) (l : List (Int × Int)) (w : World) (hs : RSet w a v room l) : Calls Try.prog 71 #[.pointer (some ⟨a, 0, none⟩)] w fun e w' => e = .returned (.int .i64 l.length) ∧ w = w' := by
  obtain ⟨_, c1, _⟩ := hs.cases
  obtain ⟨p, c, rfl⟩ := hs.len
  go_enter Try.func71, Try.ntmps71
  go_wp2
  go_ret
  exact ⟨rfl, rfl⟩
theorem rclear_any (a : Nat) (v : Value) (room : Int) (l : List (Int × Int)) (w : World) (hs : RSet w a v room l) : Calls Try.prog 61 #[.pointer (some ⟨a, 0, none⟩)] w fun e w' => e = .returned (.tuple #[]) ∧ RSet w' a (.slice none 0 0) room [] ∧ Keeps (own2 a v) w w' := by
  obtain ⟨_, c1, _⟩ := hs.cases
  have f1 := blk_free hs.hd 1
  obtain ⟨p, c, rfl⟩ := hs.len
  have H : RSet (w.setCell ⟨a, 1, none⟩ (.slice none 0 0)) a (.slice none 0 0) room [] := ⟨by rw [blk_set hs.hd]; rfl, World.ownsRow_nil _ _ _ _, by simp [Value.ownBlock], by simp⟩
  have H := Lib.hid H
  go_enter Try.func61, Try.ntmps61
  go_wp2
  go_end0
  exact ⟨rfl, H.out, (Keeps.refl _ _).setCell (fun _ => .inl rfl) _⟩
theorem rat_in (a : Nat) (v : Value) (room : Int) (l : List (Int × Int)) (i : Nat) (w : World) (hs : RSet w a v room l) (hi : i < l.length) : Calls Try.prog 69 #[.pointer (some ⟨a, 0, none⟩), .int .i64 i] w fun e w' => e = .returned (.agg #[.int .i64 (l.getD i (0, 0)).1, .int .i64 (l.getD i (0, 0)).2]) ∧ Keeps NoS w w' := by
  obtain ⟨c0, c1, hv⟩ := hs.cases
  have hsm := hs.small
  rcases hv with ⟨rfl, rfl⟩ | ⟨g, cap, rfl, hgs, hga, hcell⟩
  · simp at hi
  · have hc := hcell i hi
    obtain ⟨d0, d1⟩ := hc
    have has := blk_lt hs.hd
    clear hcell hs
    generalize (l.getD i (0, 0)).1 = x at *
    generalize (l.getD i (0, 0)).2 = y at *
    go_enter Try.func69, Try.ntmps69
    go_wp2
    exact bodyPost_ret (v := .agg #[.int .i64 x, .int .i64 y]) (by simp [results, Try.results69, go_sem]) rfl ⟨rfl, (Keeps.refl _ _).alloc _⟩
theorem rat_neg (a : Nat) (v : Value) (room : Int) (l : List (Int × Int)) (i : Int) (w : World) (hs : RSet w a v room l) (hi : i < 0) : Calls Try.prog 69 #[.pointer (some ⟨a, 0, none⟩), .int .i64 i] w fun e w' => e = .returned (.agg #[.int .i64 0, .int .i64 0]) ∧ Keeps NoS w w' := by
  obtain ⟨c0, c1, hv⟩ := hs.cases
  obtain ⟨p, c, rfl⟩ := hs.len
  have has := blk_lt hs.hd
  clear hv hs
  go_enter Try.func69, Try.ntmps69
  go_wp2
  exact bodyPost_ret (v := .agg #[.int .i64 0, .int .i64 0]) (by simp [results, Try.results69, go_sem]) rfl ⟨rfl, (Keeps.refl _ _).alloc _⟩
theorem rat_past (a : Nat) (v : Value) (room : Int) (l : List (Int × Int)) (i : Nat) (w : World) (hs : RSet w a v room l) (hi : l.length ≤ i) : Calls Try.prog 69 #[.pointer (some ⟨a, 0, none⟩), .int .i64 i] w fun e w' => e = .returned (.agg #[.int .i64 0, .int .i64 0]) ∧ Keeps NoS w w' := by
  obtain ⟨c0, c1, hv⟩ := hs.cases
  obtain ⟨p, c, rfl⟩ := hs.len
  have has := blk_lt hs.hd
  clear hv hs
  go_enter Try.func69, Try.ntmps69
  go_wp2
  exact bodyPost_ret (v := .agg #[.int .i64 0, .int .i64 0]) (by simp [results, Try.results69, go_sem]) rfl ⟨rfl, (Keeps.refl _ _).alloc _⟩
theorem rkeys_nil (w : World) : Calls Try.prog 45 #[.pointer none] w fun e w' => e = .returned (.slice none 0 0) ∧ w = w' := by
  go_enter Try.func45, Try.ntmps45
  go_wp2
  go_ret
  exact ⟨rfl, rfl⟩
def keysOf (l : List (Int × Int)) : List Value := l.map fun x => .int .i64 x.1
theorem infoInt : (Try.prog.info? 3).map (fun i => (i.zero, i.size, i.bytes)) = some (some (.int .i64 0), 1, 8) := by kernel_rfl
theorem keysOf_succ (l : List (Int × Int)) (k : Nat) (h : k < l.length) : keysOf (l.take (k + 1)) = keysOf (l.take k) ++ [.int .i64 (l.getD k (0, 0)).1] := by
  rw [keysOf, List.take_succ_eq_append_getElem h, List.map_append, getD_at _ _ _ h]
  rfl
theorem keysOf_len (l : List (Int × Int)) (k : Nat) (h : k ≤ l.length) : (keysOf (l.take k)).length = k := by simp [keysOf]; omega
theorem rsnew_in (n : Int) (w : World) : Calls Try.prog 64 #[.int .i64 n] w fun e w' => e = .returned (.pointer (some ⟨w.heap.size, 0, none⟩)) ∧ SetIn w w' w.heap.size (min (max n 0) 32) [] :=
  (rnew_any n w).mono fun e w' ⟨he, h1, h2, _⟩ => ⟨he, _, h1, Nat.le_refl _, by simp [Value.ownBlock], h2⟩
theorem rlen_in (w : World) (a : Nat) (room : Int) (l : List (Int × Int)) (wr : World) (hs : SetIn w wr a room l) :
    Calls Try.prog 71 #[.pointer (some ⟨a, 0, none⟩)] wr fun e w' => e = .returned (.int .i64 l.length) ∧ wr = w' := by
  obtain ⟨v, h1, h2, h3, h4⟩ := hs
  exact rlen_any a v room l wr h1
theorem rat_in' (w : World) (a : Nat) (room : Int) (l : List (Int × Int)) (i : Nat) (wr : World) (hs : SetIn w wr a room l) (hi : i < l.length) :
    Calls Try.prog 69 #[.pointer (some ⟨a, 0, none⟩), .int .i64 i] wr fun e w' => e = .returned (.agg #[.int .i64 (l.getD i (0, 0)).1, .int .i64 (l.getD i (0, 0)).2]) ∧ SetIn w w' a room l := by
  have hs' := hs
  obtain ⟨v, h1, h2, h3, h4⟩ := hs'
  exact (rat_in a v room l i wr h1 hi).mono fun e w' ⟨he, hw⟩ => ⟨he, hs.keep hw⟩
set_option maxHeartbeats 400000 in
set_option maxRecDepth 100000 in
theorem rkeys_any (a : Nat) (v : Value) (room : Int) (l : List (Int × Int)) (w : World) (hs : RSet w a v room l) : Calls Try.prog 45 #[.pointer (some ⟨a, 0, none⟩)] w fun e w' =>
    ∃ u, e = .returned u ∧ w'.ownsRow 0 3 1 u l.length (keysOf l) ∧ (∀ g, u.ownBlock = some g → w.heap.size ≤ g) ∧ Keeps NoS w w' := by
  obtain ⟨c0, c1, hv⟩ := hs.cases
  have hsm := hs.small
  obtain ⟨i0, hi, hz0, hz1, hz2⟩ := info_parts infoInt
  rcases hv with ⟨rfl, rfl⟩ | ⟨g, cap, rfl, hgs, hga, hcell⟩
  · clear hi hz0 hz1 hz2
    go_enter Try.func45, Try.ntmps45
    go_wp2
    go_loop [3, 13] (fun u i => u = .slice none 0 0 ∧ i = .int .i64 0) (fun _ _ => 0)
    case atStart => exact ⟨rfl, rfl⟩
    case round =>
      obtain ⟨rfl, rfl⟩ := hrel
      go_wp2
      go_ret
      exact ⟨_, rfl, World.ownsRow_nil _ _ _ _, by simp [Value.ownBlock], Keeps.refl _ _⟩
  · have Hc := Lib.hid hcell
    clear hs hcell
    go_enter Try.func45, Try.ntmps45
    go_wp2
    go_loopw [3, 13] (fun u i wr => ∃ k : Nat, k ≤ l.length ∧ i = .int .i64 k ∧ wr.ownsRow 0 3 1 u k (keysOf (l.take k)) ∧ (∀ g, u.ownBlock = some g → w.heap.size ≤ g) ∧ Keeps NoS w wr) (fun _ i _ => l.length - (intOf i).toNat)
    case atStart => exact ⟨0, by omega, rfl, World.ownsRow_nil _ _ _ _, by simp [Value.ownBlock], Keeps.refl _ _⟩
    case round =>
      obtain ⟨k, hk, rfl, hown, hnew, hkeep⟩ := hrel
      by_cases hlt : k < l.length
      · have hc := Hc.out k hlt
        have d0 := hkeep.cell hc.1 (fun f => f)
        have d1 := hkeep.cell hc.2 (fun f => f)
        have hsucc := Lib.hid (keysOf_succ l k hlt)
        clear hc c0 c1
        generalize (l.getD k (0, 0)).1 = x at *
        generalize (l.getD k (0, 0)).2 = y at *
        have d2 : ∀ u ∈ [Value.int .i64 x], u.oneCell' = true := by simp [Value.oneCell']
        have b3 : k + 1 ≤ maxLen := by unfold maxLen; omega
        go_wp2_with (at_builtin; refine wpList_append_fp _ rfl _ _ 22 rfl 3 i0 (.int .i64 0) 1 8 Try.underlying22 hi hz0 hz1 hz2 rfl (by decide) _ k (keysOf (l.take k)) rfl ((hown.alloc _).alloc _) ⟨wr.heap.size + 1, 0, none⟩ 1 1 [.int .i64 x] rfl rfl (cells_new2 _ _ _ _) d2 b3 (by omega) ?_; intro u' w3 hown' hgr hob; rw [← hsucc.out] at hown')
        go_roundw
        case rel => exact ⟨k + 1, by omega, by go_num, hown', fun g hg => (hob g hg).elim (hnew g) (fun h => by have := hkeep.size; simp at h; omega), ((hkeep.alloc _).alloc _).grown hgr (fun g hg hl => by have := hnew g hg; omega)⟩
        case measure => simp [intOf]; omega
      · obtain rfl : k = l.length := by omega
        rw [List.take_length] at hown
        go_wp2
        go_ret
        exact ⟨_, rfl, hown, hnew, hkeep⟩
end Go.Proofs.Ytfmamedkiaimpaa
