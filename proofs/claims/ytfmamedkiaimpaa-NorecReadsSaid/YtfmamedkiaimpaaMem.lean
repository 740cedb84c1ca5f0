/- The functions of package mem, each with what it computes and what it does to memory. -/
import Derived.Test.YtfmamedkiaimpaaRows
import Derived.Test.YtfmamedkiaimpaaBase
import Derived.WalkKit
import Derived.WalkSpells
import Derived.Deep.QuietTactic
import Derived.BigQuiet
import Derived.Outline
namespace Go.Proofs.Ytfmamedkiaimpaa
open Go.RowKit

/-- an access, as it is told -/
structure Acc where
  k : Int
  at_ : Int
  val : Int
  saw : Int
  done : Bool
/-- a memory: its words, how many accesses were done, the last one -/
structure MemS where
  L : List Int
  st : Int
  last : Acc
def MemS.new (L : List Int) : MemS := ⟨L, 0, ⟨0, 0, 0, 0, false⟩⟩
def MemS.did (M : MemS) (x : Acc) : MemS := { M with st := wrap64 (M.st + 1), last := x }
def MemS.word (M : MemS) (i : Nat) : Int := M.L.getD i 0
def MemS.load (M : MemS) (i : Nat) : MemS := M.did ⟨1, i, M.word i, M.word i, true⟩
def MemS.store (M : MemS) (i : Nat) (v : Int) : MemS := { (M.did ⟨2, i, v, M.word i, true⟩) with L := M.L.set i v }
def MemS.swap (M : MemS) (i : Nat) (old v : Int) : MemS := { (M.did ⟨3, i, v, M.word i, M.word i == old⟩) with L := if M.word i == old then M.L.set i v else M.L }
def MemS.add (M : MemS) (i : Nat) (d : Int) : MemS := { (M.did ⟨4, i, d, M.word i, true⟩) with L := M.L.set i (wrap64 (M.word i + d)) }

def intsV (L : List Int) : List Value := L.map (Value.int .i64)
theorem intsV_len (L : List Int) : (intsV L).length = L.length := by simp [intsV]
theorem intsV_get (L : List Int) (k : Nat) (h : k < L.length) : (intsV L)[k]? = some (.int .i64 (L.getD k 0)) := by
  rw [getD_at _ _ _ h]; simp [intsV, h]

/-- A memory at block a (a mem.Mem, or the document's own); its words' slice is v. -/
structure MemT (T : TypeId) (w : World) (a : Nat) (v : Value) (M : MemS) : Prop where
  hd : w.heap[a]? = some (.cells #[v, .int .i64 M.st, .int .i64 M.last.k, .int .i64 M.last.at_, .int .i64 M.last.val, .int .i64 M.last.saw, .bool M.last.done] T (0, 0))
  ow : w.ownsRow 0 2 1 v M.L.length (intsV M.L)
  ne : v.ownBlock ≠ some a
  small : M.L.length ≤ 1048576
/-- a mem.Mem -/
abbrev MemAt := MemT 86
def own2m (a : Nat) (v : Value) : Nat → Prop := fun k => k = a ∨ v.ownBlock = some k
def just (a : Nat) : Nat → Prop := fun k => k = a
theorem MemT.keep {T : TypeId} {w w' : World} {a : Nat} {v : Value} {M : MemS} {S : Nat → Prop} (h : MemT T w a v M) (k : Keeps S w w') (ha : ¬ S a) (hv : ∀ g, v.ownBlock = some g → ¬ S g) : MemT T w' a v M :=
  ⟨k.blk h.hd ha, k.owns h.ow hv, h.ne, h.small⟩
theorem MemT.cells {T : TypeId} {w : World} {a : Nat} {v : Value} {M : MemS} (h : MemT T w a v M) :
    w.cell? ⟨a, 0, none⟩ = some v ∧ w.cell? ⟨a, 1, none⟩ = some (.int .i64 M.st) := ⟨by rw [blk_cell h.hd]; rfl, by rw [blk_cell h.hd]; rfl⟩
theorem MemT.slice {T : TypeId} {w : World} {a : Nat} {v : Value} {M : MemS} (h : MemT T w a v M) : ∃ p c, v = .slice p M.L.length c := owns_slice h.ow
theorem MemT.word {T : TypeId} {w : World} {a : Nat} {v : Value} {M : MemS} (h : MemT T w a v M) (i : Nat) (hi : i < M.L.length) : ∃ g c, v = .slice (some ⟨g, 0, none⟩) M.L.length c ∧ g ≠ a ∧
    w.cell? ⟨g, i, none⟩ = some (.int .i64 (M.word i)) ∧ w.frozen? ⟨g, i, none⟩ = false ∧ g < w.heap.size := by
  rcases h.ow.2 with ⟨_, hz⟩ | ⟨g, cap, cur, hv, _, hg, _⟩
  · omega
  · refine ⟨g, cap, hv, fun e => h.ne (by rw [hv, e]; rfl), ?_, blk_free hg i, blk_lt hg⟩
    rw [← add_zero_off]
    exact h.ow.cells (by rw [hv]; rfl) i _ (intsV_get _ _ hi)

theorem did_any (a : Nat) (v : Value) (st c2 c3 c4 c5 : Int) (c6 : Bool) (k at_ val saw : Int) (done : Bool) (w : World)
    (hd : w.heap[a]? = some (.cells #[v, .int .i64 st, .int .i64 c2, .int .i64 c3, .int .i64 c4, .int .i64 c5, .bool c6] 86 (0, 0))) :
    Calls Try.prog 44 #[.pointer (some ⟨a, 0, none⟩), .int .i64 k, .int .i64 at_, .int .i64 val, .int .i64 saw, .bool done] w fun e w' => e = .returned (.tuple #[]) ∧
      w'.heap[a]? = some (.cells #[v, .int .i64 (wrap64 (st + 1)), .int .i64 k, .int .i64 at_, .int .i64 val, .int .i64 saw, .bool done] 86 (0, 0)) ∧ Keeps (just a) w w' := by
  have c1 : w.cell? ⟨a, 1, none⟩ = some (.int .i64 st) := by rw [blk_cell hd]; rfl
  have d2 : w.cell? ⟨a, 2, none⟩ = some (.int .i64 c2) := by rw [blk_cell hd]; rfl
  have d3 : w.cell? ⟨a, 3, none⟩ = some (.int .i64 c3) := by rw [blk_cell hd]; rfl
  have d4 : w.cell? ⟨a, 4, none⟩ = some (.int .i64 c4) := by rw [blk_cell hd]; rfl
  have d5 : w.cell? ⟨a, 5, none⟩ = some (.int .i64 c5) := by rw [blk_cell hd]; rfl
  have d6 : w.cell? ⟨a, 6, none⟩ = some (.bool c6) := by rw [blk_cell hd]; rfl
  have f1 := blk_free hd 1
  have f2 := blk_free hd 2
  have f3 := blk_free hd 3
  have f4 := blk_free hd 4
  have f5 := blk_free hd 5
  have f6 := blk_free hd 6
  have HD := Lib.hid hd
  clear hd
  go_enter Try.func44, Try.ntmps44
  go_wp2
  go_end0
  refine ⟨rfl, ?_, ((((((Keeps.refl (just a) w).setCell (p := ⟨a, 1, none⟩) (fun _ => rfl) _).setCell (p := ⟨a, 2, none⟩) (fun _ => rfl) _).setCell (p := ⟨a, 3, none⟩) (fun _ => rfl) _).setCell (p := ⟨a, 4, none⟩) (fun _ => rfl) _).setCell (p := ⟨a, 5, none⟩) (fun _ => rfl) _).setCell (p := ⟨a, 6, none⟩) (fun _ => rfl) _⟩
  rw [blk_set (blk_set (blk_set (blk_set (blk_set (blk_set HD.out 1 _) 2 _) 3 _) 4 _) 5 _) 6 _]
  rfl
theorem did_mem (a : Nat) (v : Value) (M : MemS) (x : Acc) (w : World) (h : MemAt w a v M) :
    Calls Try.prog 44 #[.pointer (some ⟨a, 0, none⟩), .int .i64 x.k, .int .i64 x.at_, .int .i64 x.val, .int .i64 x.saw, .bool x.done] w fun e w' => e = .returned (.tuple #[]) ∧ MemAt w' a v (M.did x) ∧ Keeps (just a) w w' :=
  (did_any a v _ _ _ _ _ _ x.k x.at_ x.val x.saw x.done w h.hd).mono fun e w' ⟨he, hb, hk⟩ => ⟨he, ⟨hb, hk.owns h.ow (fun g hg e => h.ne (e ▸ hg)), h.ne, h.small⟩, hk⟩

theorem bad_nil (i : Int) (w : World) : Calls Try.prog 43 #[.pointer none, .int .i64 i] w fun e w' => e = .returned (.int .i64 10) ∧ w = w' := by
  go_enter Try.func43, Try.ntmps43
  go_wp2
  go_ret
  exact ⟨rfl, rfl⟩
theorem bad_neg (a : Nat) (v : Value) (M : MemS) (i : Int) (w : World) (_h : MemAt w a v M) (hi : i < 0) : Calls Try.prog 43 #[.pointer (some ⟨a, 0, none⟩), .int .i64 i] w fun e w' => e = .returned (.int .i64 2) ∧ Keeps NoS w w' := by
  go_enter Try.func43, Try.ntmps43
  go_wp2
  go_ret
  exact ⟨rfl, Keeps.refl _ _⟩
theorem bad_past (a : Nat) (v : Value) (M : MemS) (i : Nat) (w : World) (h : MemAt w a v M) (hi : M.L.length ≤ i) : Calls Try.prog 43 #[.pointer (some ⟨a, 0, none⟩), .int .i64 i] w fun e w' => e = .returned (.int .i64 2) ∧ Keeps NoS w w' := by
  obtain ⟨c0, _⟩ := h.cells
  obtain ⟨p, c, rfl⟩ := h.slice
  clear h
  go_enter Try.func43, Try.ntmps43
  go_wp2
  go_ret
  exact ⟨rfl, Keeps.refl _ _⟩
theorem bad_ok (a : Nat) (v : Value) (M : MemS) (i : Nat) (w : World) (h : MemAt w a v M) (hi : i < M.L.length) : Calls Try.prog 43 #[.pointer (some ⟨a, 0, none⟩), .int .i64 i] w fun e w' => e = .returned (.int .i64 0) ∧ Keeps NoS w w' := by
  obtain ⟨c0, _⟩ := h.cells
  obtain ⟨p, c, rfl⟩ := h.slice
  clear h
  go_enter Try.func43, Try.ntmps43
  go_wp2
  go_ret
  exact ⟨rfl, Keeps.refl _ _⟩

theorem load_ok (a : Nat) (v : Value) (M : MemS) (i : Nat) (w : World) (h : MemAt w a v M) (hi : i < M.L.length) :
    Calls Try.prog 52 #[.pointer (some ⟨a, 0, none⟩), .int .i64 i] w fun e w' => e = .returned (.tuple #[.int .i64 (M.word i), .int .i64 0]) ∧ MemAt w' a v (M.load i) ∧ Keeps (just a) w w' := by
  go_enter Try.func52, Try.ntmps52
  go_wp2_with fail
  refine (bad_ok a v M i w h hi).mono ?_
  rintro e w1 ⟨rfl, hk1⟩
  have h1 := h.keep hk1 (fun f => f) (fun _ _ f => f)
  obtain ⟨c0, _⟩ := h1.cells
  obtain ⟨g, c, rfl, hga, hc, _, _⟩ := h1.word i hi
  go_wp2_with fail
  refine (did_mem a _ M ⟨1, i, M.word i, M.word i, true⟩ w1 h1).mono ?_
  rintro e w2 ⟨rfl, h2, hk2⟩
  go_wp2_with fail
  go_ret2
  exact ⟨rfl, h2, hk1.no.trans hk2⟩
theorem load_nil (i : Int) (w : World) : Calls Try.prog 52 #[.pointer none, .int .i64 i] w fun e w' => e = .returned (.tuple #[.int .i64 0, .int .i64 10]) ∧ w = w' := by
  go_enter Try.func52, Try.ntmps52
  go_wp2_with (go_at_call 43; refine (bad_nil i w).mono ?_; rintro e w1 ⟨rfl, rfl⟩)
  go_ret2
  exact ⟨rfl, rfl⟩
/-- a place that is none -/
def MemS.out (M : MemS) (i : Int) : Prop := i < 0 ∨ (M.L.length : Int) ≤ i
theorem bad_out (a : Nat) (v : Value) (M : MemS) (i : Int) (w : World) (h : MemAt w a v M) (hi : M.out i) : Calls Try.prog 43 #[.pointer (some ⟨a, 0, none⟩), .int .i64 i] w fun e w' => e = .returned (.int .i64 2) ∧ Keeps NoS w w' := by
  by_cases h0 : i < 0
  · exact bad_neg a v M i w h h0
  · obtain ⟨n, rfl⟩ := Int.eq_ofNat_of_zero_le (show 0 ≤ i by omega)
    exact bad_past a v M n w h (by rcases hi with h | h <;> omega)
theorem load_out (a : Nat) (v : Value) (M : MemS) (i : Int) (w : World) (h : MemAt w a v M) (hi : M.out i) :
    Calls Try.prog 52 #[.pointer (some ⟨a, 0, none⟩), .int .i64 i] w fun e w' => e = .returned (.tuple #[.int .i64 0, .int .i64 2]) ∧ Keeps NoS w w' := by
  go_enter Try.func52, Try.ntmps52
  go_wp2_with (go_at_call 43; refine (bad_out a v M i w h hi).mono ?_; rintro e w1 ⟨rfl, hk1⟩)
  go_ret2
  exact ⟨rfl, hk1⟩

/-- a word is put: what was did has been told already -/
theorem MemT.put {T : TypeId} {w : World} {a g n c : Nat} {M : MemS} {i : Nat} {x : Int} (h : MemT T w a (.slice (some ⟨g, 0, none⟩) n c) M) (hn : n = M.L.length) :
    MemT T (w.setCell ⟨g, i, none⟩ (.int .i64 x)) a (.slice (some ⟨g, 0, none⟩) n c) { M with L := M.L.set i x } := by
  subst hn
  have hga : g ≠ a := fun e => h.ne (by rw [e]; rfl)
  refine ⟨?_, ?_, h.ne, by simpa using h.small⟩
  · rw [Below.heap_setCell _ _ _ _ (fun e => hga e.symm)]; exact h.hd
  · have := (h.ow.stored i (.int .i64 x)).1
    simpa [intsV, List.map_set] using this
theorem store_ok (a : Nat) (v : Value) (M : MemS) (i : Nat) (x : Int) (w : World) (h : MemAt w a v M) (hi : i < M.L.length) :
    Calls Try.prog 16 #[.pointer (some ⟨a, 0, none⟩), .int .i64 i, .int .i64 x] w fun e w' => e = .returned (.int .i64 0) ∧ MemAt w' a v (M.store i x) ∧ Keeps (own2m a v) w w' := by
  go_enter Try.func16, Try.ntmps16
  go_wp2_with fail
  refine (bad_ok a v M i w h hi).mono ?_
  rintro e w1 ⟨rfl, hk1⟩
  have h1 := h.keep hk1 (fun f => f) (fun _ _ f => f)
  obtain ⟨c0, _⟩ := h1.cells
  obtain ⟨g, c, rfl, hga, hc, _, _⟩ := h1.word i hi
  go_wp2_with fail
  refine (did_mem a _ M ⟨2, i, x, M.word i, true⟩ w1 h1).mono ?_
  rintro e w2 ⟨rfl, h2, hk2⟩
  have hput := h2.put (i := i) (x := x) rfl
  obtain ⟨d0, _⟩ := h2.cells
  obtain ⟨g', c', hv', _, d1, d2, _⟩ := h2.word i hi
  simp only [Value.slice.injEq, Option.some.injEq, Addr.mk.injEq, and_true, true_and] at hv'
  obtain ⟨rfl, _⟩ := hv'
  clear c0 hc
  go_wp2_with fail
  go_ret
  exact ⟨rfl, hput, (hk1.no.trans (hk2.mono (fun k hk => .inl hk))).setCell (p := ⟨g, i, none⟩) (fun _ => .inr rfl) _⟩
theorem store_out (a : Nat) (v : Value) (M : MemS) (i x : Int) (w : World) (h : MemAt w a v M) (hi : M.out i) :
    Calls Try.prog 16 #[.pointer (some ⟨a, 0, none⟩), .int .i64 i, .int .i64 x] w fun e w' => e = .returned (.int .i64 2) ∧ Keeps NoS w w' := by
  go_enter Try.func16, Try.ntmps16
  go_wp2_with (go_at_call 43; refine (bad_out a v M i w h hi).mono ?_; rintro e w1 ⟨rfl, hk1⟩)
  go_ret
  exact ⟨rfl, hk1⟩
theorem store_nil (i x : Int) (w : World) : Calls Try.prog 16 #[.pointer none, .int .i64 i, .int .i64 x] w fun e w' => e = .returned (.int .i64 10) ∧ w = w' := by
  go_enter Try.func16, Try.ntmps16
  go_wp2_with (go_at_call 43; refine (bad_nil i w).mono ?_; rintro e w1 ⟨rfl, rfl⟩)
  go_ret
  exact ⟨rfl, rfl⟩
theorem swap_yes (a : Nat) (v : Value) (M : MemS) (i : Nat) (old x : Int) (w : World) (h : MemAt w a v M) (hi : i < M.L.length) (ho : (M.word i == old) = true) :
    Calls Try.prog 76 #[.pointer (some ⟨a, 0, none⟩), .int .i64 i, .int .i64 old, .int .i64 x] w fun e w' => e = .returned (.tuple #[.int .i64 (M.word i), .bool true, .int .i64 0]) ∧ MemAt w' a v (M.swap i old x) ∧ Keeps (own2m a v) w w' := by
  go_enter Try.func76, Try.ntmps76
  go_wp2_with fail
  refine (bad_ok a v M i w h hi).mono ?_
  rintro e w1 ⟨rfl, hk1⟩
  have h1 := h.keep hk1 (fun f => f) (fun _ _ f => f)
  obtain ⟨c0, _⟩ := h1.cells
  obtain ⟨g, c, rfl, hga, hc, _, _⟩ := h1.word i hi
  go_wp2_with fail
  refine (did_mem a _ M ⟨3, i, x, M.word i, true⟩ w1 h1).mono ?_
  rintro e w2 ⟨rfl, h2, hk2⟩
  have hput := h2.put (i := i) (x := x) rfl
  obtain ⟨d0, _⟩ := h2.cells
  obtain ⟨g', c', hv', _, d1, d2, _⟩ := h2.word i hi
  simp only [Value.slice.injEq, Option.some.injEq, Addr.mk.injEq, and_true, true_and] at hv'
  obtain ⟨rfl, _⟩ := hv'
  clear c0 hc
  go_wp2_with fail
  go_ret3
  have e : M.swap i old x = { M.did ⟨3, i, x, M.word i, true⟩ with L := (M.did ⟨3, i, x, M.word i, true⟩).L.set i x } := by unfold MemS.swap; rw [ho]; rfl
  exact ⟨rfl, by rw [e]; exact hput, (hk1.no.trans (hk2.mono (fun k hk => .inl hk))).setCell (p := ⟨g, i, none⟩) (fun _ => .inr rfl) _⟩
theorem swap_no (a : Nat) (v : Value) (M : MemS) (i : Nat) (old x : Int) (w : World) (h : MemAt w a v M) (hi : i < M.L.length) (ho : (M.word i == old) = false) :
    Calls Try.prog 76 #[.pointer (some ⟨a, 0, none⟩), .int .i64 i, .int .i64 old, .int .i64 x] w fun e w' => e = .returned (.tuple #[.int .i64 (M.word i), .bool false, .int .i64 0]) ∧ MemAt w' a v (M.swap i old x) ∧ Keeps (own2m a v) w w' := by
  go_enter Try.func76, Try.ntmps76
  go_wp2_with fail
  refine (bad_ok a v M i w h hi).mono ?_
  rintro e w1 ⟨rfl, hk1⟩
  have h1 := h.keep hk1 (fun f => f) (fun _ _ f => f)
  obtain ⟨c0, _⟩ := h1.cells
  obtain ⟨g, c, rfl, hga, hc, _, _⟩ := h1.word i hi
  go_wp2_with fail
  refine (did_mem a _ M ⟨3, i, x, M.word i, false⟩ w1 h1).mono ?_
  rintro e w2 ⟨rfl, h2, hk2⟩
  go_wp2_with fail
  go_ret3
  have e : M.swap i old x = M.did ⟨3, i, x, M.word i, false⟩ := by unfold MemS.swap; rw [ho]; rfl
  exact ⟨rfl, by rw [e]; exact h2, hk1.no.trans (hk2.mono (fun k hk => .inl hk))⟩
theorem swap_out (a : Nat) (v : Value) (M : MemS) (i old x : Int) (w : World) (h : MemAt w a v M) (hi : M.out i) :
    Calls Try.prog 76 #[.pointer (some ⟨a, 0, none⟩), .int .i64 i, .int .i64 old, .int .i64 x] w fun e w' => e = .returned (.tuple #[.int .i64 0, .bool false, .int .i64 2]) ∧ Keeps NoS w w' := by
  go_enter Try.func76, Try.ntmps76
  go_wp2_with (go_at_call 43; refine (bad_out a v M i w h hi).mono ?_; rintro e w1 ⟨rfl, hk1⟩)
  go_ret3
  exact ⟨rfl, hk1⟩
theorem swap_nil (i old x : Int) (w : World) : Calls Try.prog 76 #[.pointer none, .int .i64 i, .int .i64 old, .int .i64 x] w fun e w' => e = .returned (.tuple #[.int .i64 0, .bool false, .int .i64 10]) ∧ w = w' := by
  go_enter Try.func76, Try.ntmps76
  go_wp2_with (go_at_call 43; refine (bad_nil i w).mono ?_; rintro e w1 ⟨rfl, rfl⟩)
  go_ret3
  exact ⟨rfl, rfl⟩
theorem peek_ok (a : Nat) (v : Value) (M : MemS) (i : Nat) (w : World) (h : MemAt w a v M) (hi : i < M.L.length) :
    Calls Try.prog 18 #[.pointer (some ⟨a, 0, none⟩), .int .i64 i] w fun e w' => e = .returned (.int .i64 (M.word i)) ∧ Keeps NoS w w' := by
  go_enter Try.func18, Try.ntmps18
  go_wp2_with fail
  refine (bad_ok a v M i w h hi).mono ?_
  rintro e w1 ⟨rfl, hk1⟩
  have h1 := h.keep hk1 (fun f => f) (fun _ _ f => f)
  obtain ⟨c0, _⟩ := h1.cells
  obtain ⟨g, c, rfl, hga, hc, _, _⟩ := h1.word i hi
  go_wp2_with fail
  go_ret
  exact ⟨rfl, hk1⟩
theorem peek_out (a : Nat) (v : Value) (M : MemS) (i : Int) (w : World) (h : MemAt w a v M) (hi : M.out i) :
    Calls Try.prog 18 #[.pointer (some ⟨a, 0, none⟩), .int .i64 i] w fun e w' => e = .returned (.int .i64 0) ∧ Keeps NoS w w' := by
  go_enter Try.func18, Try.ntmps18
  go_wp2_with (go_at_call 43; refine (bad_out a v M i w h hi).mono ?_; rintro e w1 ⟨rfl, hk1⟩)
  go_ret
  exact ⟨rfl, hk1⟩
theorem peek_nil (i : Int) (w : World) : Calls Try.prog 18 #[.pointer none, .int .i64 i] w fun e w' => e = .returned (.int .i64 0) ∧ w = w' := by
  go_enter Try.func18, Try.ntmps18
  go_wp2_with (go_at_call 43; refine (bad_nil i w).mono ?_; rintro e w1 ⟨rfl, rfl⟩)
  go_ret
  exact ⟨rfl, rfl⟩
end Go.Proofs.Ytfmamedkiaimpaa
