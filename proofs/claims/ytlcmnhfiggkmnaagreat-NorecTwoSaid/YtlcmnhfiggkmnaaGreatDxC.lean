/- The document's attempt, by values (chapter 16): what its functions compute; it goes with package norec's (plain). -/
import Derived.Test.YtlcmnhfiggkmnaaGreatTxTI
import Derived.Test.YtlcmnhfiggkmnaaGreatWritesRef
import Derived.Test.YtlcmnhfiggkmnaaGreatMemTot
import Derived.Test.YtlcmnhfiggkmnaaGreatLaw8
import Derived.Deep.RegionHeld3
import Derived.Deep.DeepCutAuto
import Derived.Deep.QuietTactic
import Derived.BigQuiet
namespace Go.Proofs.YtlcmnhfiggkmnaaGreat
open Go.RowKit
structure DxS where
  th : Int
  clk : Int
  top : Int
  R : List (Int × Int)
  asked : Int
  W : List (Int × Int)
  alive : Bool
  sure : Bool
  phased : Bool
  locked : Bool
  job : Int
  state : Int
  i : Int
  look : Int
  seen : Int
  pl : Int
  got : Int
  pre : Int
  next : Int
  val : Int
  stamp : Int
  made : Int
  cause : Int
def abortD (d : DxS) (c : Int) : DxS × Int :=
  if d.locked || d.phased then ({ d with cause := c, made := 0, alive := false, job := 5, state := 0, i := 0, look := 0 }, 0)
  else ({ d with cause := c, made := 0, alive := false, job := 0, state := 0, i := 0, look := 0 }, 2)
def endD (d : DxS) : DxS := { d with job := 0 }
def beginD (d : DxS) : DxS × Int :=
  if d.alive = true ∨ d.job ≠ 0 then (d, 2)
  else ({ d with R := [], asked := 0, W := [], alive := true, sure := false, phased := false, locked := false, job := 1, state := 0, i := 0, look := 0, val := 0, made := 0, cause := 0 }, 0)
def askD (d : DxS) (job : Int) : DxS := { d with job := job, state := 0, i := 0, look := 0 }
def idleD (d : DxS) : Bool := d.alive && (d.job == 0)
def inD (p : Int) : Bool := decide (0 ≤ p) && decide (p < 34)
def readD (d : DxS) (p : Int) : DxS × Int :=
  if idleD d then
    (if inD p then
      (if hasW d.W p then ({ askD d 2 with asked := askedL d.W p d.asked, val := getW d.W p, job := 0 }, 1)
       else if roomFor 32 d.R p then ({ askD d 2 with asked := askedL d.W p d.asked, pl := p }, 0)
       else abortD { askD d 2 with asked := askedL d.W p d.asked } 4)
     else abortD (askD d 2) 4)
  else (d, 2)
def writeD (d : DxS) (p x : Int) : DxS × Int :=
  if idleD d then
    (if inD p then (if putOk 32 d.W p then ({ d with W := putW 32 d.W p x }, 1) else abortD { d with W := putW 32 d.W p x } 4)
     else abortD d 4)
  else (d, 2)
def commitAskD (d : DxS) : DxS × Int := if idleD d then (askD d 4, 0) else (d, 2)
def sureD (d : DxS) : DxS × Int := if d.state = 5 then ({ d with sure := true, state := if (0 : Int) < d.W.length then 6 else 8, i := 0 }, 0) else (d, 0)
def seatD (d : DxS) : DxS × Int := if d.top < wrap64 (d.stamp + 2) then abortD d 5 else ({ d with state := 1 }, 0)
def lookedD (M : MemS) (d : DxS) : MemS × (DxS × Int) :=
  if d.look = 1 then (M.loadI 1, if oddB (M.atP 1) then (d, 0) else ({ d with next := M.atP 1, look := if (d.R.length : Int) = 0 then 3 else 2, seen := 0 }, 0))
  else if d.look = 2 then (M.loadI (d.R.getD d.seen.toNat (0, 0)).1, if M.atP (d.R.getD d.seen.toNat (0, 0)).1 = (d.R.getD d.seen.toNat (0, 0)).2 then ({ d with seen := d.seen + 1, look := if d.seen + 1 = (d.R.length : Int) then 3 else 2 }, 0) else (d, 2))
  else (M.loadI 1, if M.atP 1 = d.next then ({ d with stamp := d.next, look := 0, seen := 0 }, 1) else ({ d with look := 1 }, 0))
def phD (d : DxS) : Int := threadP ⟨3, 1, 3, 0, 4⟩ d.th 0
def stepBeginD (M : MemS) (d : DxS) : MemS × (DxS × Int) := (M.loadI 1, if oddB (M.atP 1) then (d, 0) else (endD { d with stamp := M.atP 1 }, 1))
def stepReadD (M : MemS) (d : DxS) : MemS × (DxS × Int) :=
  if 0 < d.look then ((lookedD M d).1, if 1 < (lookedD M d).2.2 then abortD (lookedD M d).2.1 2 else ((lookedD M d).2.1, 0))
  else if d.state = 0 then (M.loadI d.pl, ({ d with got := M.atP d.pl, state := 2 }, 0))
  else (M.loadI 1, if M.atP 1 = d.stamp then (endD { d with state := 3, val := d.got, R := putL 32 d.R d.pl d.got }, 1) else ({ d with look := 1, state := 0 }, 0))
def takeD (M : MemS) (d : DxS) : MemS × (DxS × Int) :=
  if 0 < d.look then ((lookedD M d).1, if (lookedD M d).2.2 = 1 then seatD (lookedD M d).2.1 else if 1 < (lookedD M d).2.2 then abortD (lookedD M d).2.1 2 else ((lookedD M d).2.1, 0))
  else (M.swapI 1 d.stamp (wrap64 (d.stamp + 1)), if M.swapOk 1 d.stamp then sureD { d with made := wrap64 (d.stamp + 2), locked := true, state := 5, i := 0 } else ({ d with look := 1 }, 0))
def writesD (M : MemS) (d : DxS) : MemS × (DxS × Int) :=
  if d.state = 6 then (M.storeI (d.W.getD d.i.toNat (0, 0)).1 (d.W.getD d.i.toNat (0, 0)).2, (if d.i + 1 = (d.W.length : Int) then { d with state := 7, i := 0 } else { d with i := d.i + 1 }, 0))
  else if d.state = 7 then (M.storeI 1 d.made, ({ d with state := 8 }, 0))
  else (M.storeI (phD d) 0, (endD { d with stamp := if (0 : Int) < d.W.length then d.made else d.stamp, alive := false }, 1))
def stepCommitD (M : MemS) (d : DxS) : MemS × (DxS × Int) :=
  if d.state = 0 then (M.storeI (phD d) 2, if (0 : Int) < d.W.length then seatD { d with phased := true, i := 0, state := 1 } else sureD { d with phased := true, i := 0, state := 5 })
  else if d.state = 1 then takeD M d
  else writesD M d
def undoneD (d : DxS) : DxS × Int := if d.locked || d.phased then (d, 0) else (endD d, 2)
def stepUndoD (M : MemS) (d : DxS) : MemS × (DxS × Int) :=
  if d.locked then (M.storeI 1 d.stamp, undoneD { d with locked := false }) else (M.storeI (phD d) 0, undoneD { d with phased := false })
def stepD (M : MemS) (d : DxS) : MemS × (DxS × Int) :=
  if d.job = 1 then stepBeginD M d else if d.job = 2 then stepReadD M d else if d.job = 4 then stepCommitD M d else if d.job = 5 then stepUndoD M d else (M, (d, 1))
/-- where the walk of a step holds -/
def lookedOk (d : DxS) : Prop := d.look = 1 ∨ (d.look = 2 ∧ 0 ≤ d.seen ∧ d.seen < (d.R.length : Int)) ∨ d.look = 3
structure DOk (d : DxS) : Prop where
  rl : d.R.length ≤ 32
  wl : d.W.length ≤ 32
  jb : d.job = 0 ∨ d.job = 1 ∨ (d.job = 2 ∧ ((d.look = 0 ∧ (d.state = 0 ∨ d.state = 2)) ∨ lookedOk d)) ∨ (d.job = 4 ∧ ((d.state = 0 ∧ d.look = 0) ∨ (d.state = 1 ∧ (d.look = 0 ∨ lookedOk d)) ∨ (d.state = 6 ∧ 0 ≤ d.i ∧ d.i < (d.W.length : Int)) ∨ d.state = 7 ∨ d.state = 8)) ∨ d.job = 5
end Go.Proofs.YtlcmnhfiggkmnaaGreat
namespace Go.Proofs.YtlcmnhfiggkmnaaGreat
open Go.RowKit
def SeekS (t : TxS) (d : DxS) : Prop := (t.part = 8 ∧ d.look = 1) ∨ (t.part = 9 ∧ d.look = 2 ∧ d.seen = t.i ∧ 0 ≤ t.i ∧ t.i < (t.R.length : Int) ∧ d.next = t.now) ∨ (t.part = 10 ∧ d.look = 3 ∧ d.next = t.now)
def LookS (t : TxS) (d : DxS) : Prop := (t.part = 0 ∧ d.state = 0 ∧ d.look = 0 ∧ d.pl = t.pl) ∨ (t.part = 1 ∧ d.state = 2 ∧ d.look = 0 ∧ d.pl = t.pl ∧ d.got = t.val) ∨ (d.state = 0 ∧ d.pl = t.pl ∧ SeekS t d)
def CommS (t : TxS) (d : DxS) : Prop :=
  (t.life = 1 ∧ ((t.part = 3 ∧ d.state = 0 ∧ d.look = 0) ∨ ((0 : Int) < (t.W.length : Int) ∧ ((t.part = 4 ∧ d.state = 1 ∧ d.look = 0) ∨ (d.state = 1 ∧ SeekS t d))))) ∨
  (t.life = 2 ∧ ((t.part = 5 ∧ t.took = true ∧ d.state = 6 ∧ d.i = t.i ∧ 0 ≤ t.i ∧ t.i < (t.W.length : Int)) ∨ (t.part = 6 ∧ d.state = 7) ∨ (t.part = 7 ∧ d.state = 8)))
def SimJ (t : TxS) (d : DxS) : Prop :=
  t.job = 0 ∨ (t.job = 5 ∧ t.life = 3) ∨ (t.job = 1 ∧ t.life = 1 ∧ t.part = 0) ∨ (t.job = 2 ∧ t.life = 1 ∧ LookS t d) ∨ (t.job = 4 ∧ CommS t d)
/-- the fields that both have -/
structure SimB (t : TxS) (d : DxS) : Prop where
  th : d.th = t.th
  top : d.top = t.top
  R : d.R = t.R
  W : d.W = t.W
  V : t.V = []
  val : d.val = t.value
  stamp : d.stamp = t.stamp
  rl : t.R.length ≤ 32
  wl : t.W.length ≤ 32
structure Sim (t : TxS) (d : DxS) : Prop extends SimB t d where
  made : d.made = t.made
  cause : d.cause = t.cause
  job : d.job = t.job
  sure : d.sure = (t.life == 2)
  alive : d.alive = ((t.life == 1) || ((t.life == 2) && !(t.job == 0)))
  ph : t.life ≠ 2 → d.phased = t.phased
  lk : t.life ≠ 2 → d.locked = t.took
  tk : t.life = 1 → t.took = false
  st : SimJ t d
/-- what both tell -/
def SimR (x : MemS × (TxS × Int)) (y : MemS × (DxS × Int)) : Prop := y.1 = x.1 ∧ y.2.2 = x.2.2 ∧ Sim x.2.1 y.2.1
def SimA (x : TxS × Int) (y : DxS × Int) : Prop := y.2 = x.2 ∧ Sim x.1 y.1
theorem via {α β : Type} {R : α → β → Prop} {x x' : α} {y y' : β} (hx : x = x') (hy : y = y') (h : R x' y') : R x y := by rw [hx, hy]; exact h
section
variable {t : TxS} {d : DxS}
theorem sim_abort (h : SimB t d) (hs : d.sure = false) (hp : d.phased = t.phased) (hl : d.locked = t.took) (c : Int) : SimA (abortT t c) (abortD d c) := by
  unfold abortT undoneT abortD
  dsimp only
  have e0 : (d.locked || d.phased) = (t.took || t.phased) := by rw [hp, hl]
  rw [e0]
  by_cases q : (t.took || t.phased) = true
  · rw [if_pos q, if_pos q]
    exact ⟨rfl, ⟨h.th, h.top, h.R, h.W, h.V, h.val, h.stamp, h.rl, h.wl⟩, rfl, rfl, rfl, hs, rfl, fun _ => hp, fun _ => hl, fun e => absurd (show (3 : Int) = 1 from e) (by decide), .inr (.inl ⟨rfl, rfl⟩)⟩
  · rw [if_neg q, if_neg q]
    exact ⟨rfl, ⟨h.th, h.top, h.R, h.W, h.V, h.val, h.stamp, h.rl, h.wl⟩, rfl, rfl, rfl, hs, rfl, fun _ => hp, fun _ => hl, fun e => absurd (show (3 : Int) = 1 from e) (by decide), .inl rfl⟩
/-- an attempt that is alive -/
structure SimL (t : TxS) (d : DxS) : Prop extends SimB t d where
  made : d.made = t.made
  cause : d.cause = t.cause
  job : d.job = t.job
  life : t.life = 1
  sure : d.sure = false
  alive : d.alive = true
  ph : d.phased = t.phased
  lk : d.locked = t.took
  tk : t.took = false
theorem SimL.sim (h : SimL t d) (st : SimJ t d) : Sim t d :=
  ⟨h.toSimB, h.made, h.cause, h.job, by rw [h.sure, h.life]; rfl, by rw [h.alive, h.life]; rfl, fun _ => h.ph, fun _ => h.lk, fun _ => h.tk, st⟩
theorem Sim.live (h : Sim t d) (hl : t.life = 1) : SimL t d :=
  ⟨h.toSimB, h.made, h.cause, h.job, hl, by rw [h.sure, hl]; rfl, by rw [h.alive, hl]; rfl, h.ph (by rw [hl]; decide), h.lk (by rw [hl]; decide), h.tk hl⟩
theorem SimL.abort (h : SimL t d) (c : Int) : SimA (abortT t c) (abortD d c) := sim_abort h.toSimB h.sure h.ph h.lk c
theorem sim_seat (h : SimL t d) (hj : t.job = 4) (hk : d.look = 0) (hw : (0 : Int) < (t.W.length : Int)) : SimA (mayTakeT { t with part := 4 }) (seatD d) := by
  unfold mayTakeT seatD
  dsimp only
  have h4 : SimL { t with part := 4 } d := ⟨⟨h.th, h.top, h.R, h.W, h.V, h.val, h.stamp, h.rl, h.wl⟩, h.made, h.cause, h.job, h.life, h.sure, h.alive, h.ph, h.lk, h.tk⟩
  by_cases q : t.top < wrap64 (t.stamp + 2)
  · rw [if_pos q, if_pos (by rw [h.top, h.stamp]; exact q)]
    exact h4.abort 5
  · rw [if_neg q, if_neg (by rw [h.top, h.stamp]; exact q)]
    exact ⟨rfl, SimL.sim (t := { t with part := 4 }) (d := { d with state := 1 }) ⟨⟨h.th, h.top, h.R, h.W, h.V, h.val, h.stamp, h.rl, h.wl⟩, h.made, h.cause, h.job, h.life, h.sure, h.alive, h.ph, h.lk, h.tk⟩ (.inr (.inr (.inr (.inr ⟨hj, .inl ⟨h.life, .inr ⟨hw, .inl ⟨rfl, rfl, hk⟩⟩⟩⟩))))⟩
/-- one access of looking through: what the document's tells, and what the program's then does -/
inductive LkR (t : TxS) (d : DxS) : MemS × (TxS × Int) → MemS × (DxS × Int) → Prop
  | go {M t' d'} : t'.W = t.W → t'.job = t.job → SimL t' d' → d'.state = d.state → d'.pl = d.pl → t'.pl = t.pl → SeekS t' d' → LkR t d (M, (t', 0)) (M, (d', 0))
  | stale {M x} : SimA x (abortD d 2) → LkR t d (M, x) (M, (d, 2))
  | done {M x} : ∀ t' d', t'.W = t.W → t'.job = t.job → SimL t' d' → d'.state = d.state → d'.pl = d.pl → t'.pl = t.pl → d'.look = 0 → x = foundT t' → LkR t d (M, x) (M, (d', 1))
theorem sim_looked (h : SimL t d) (M : MemS) (hs : SeekS t d) : LkR t d (seeksT M t) (lookedD M d) := by
  obtain ⟨b, hb⟩ : ∃ b, oddB (M.atP 1) = b := ⟨_, rfl⟩
  rcases hs with ⟨p, k⟩ | ⟨p, k, e, i0, i1, n⟩ | ⟨p, k, n⟩
  · refine via (by unfold seeksT; rw [if_pos p, hb]) (by unfold lookedD; rw [if_pos k, hb]) ?_
    cases b with
    | true =>
      rw [if_pos rfl, if_pos rfl]
      exact .go rfl rfl ⟨⟨h.th, h.top, h.R, h.W, h.V, h.val, h.stamp, h.rl, h.wl⟩, h.made, h.cause, h.job, h.life, h.sure, h.alive, h.ph, h.lk, h.tk⟩ rfl rfl rfl (.inl ⟨p, k⟩)
    | false =>
      rw [if_neg (by decide), if_neg (by decide)]
      unfold seekEnd
      dsimp only
      have hR := h.R
      by_cases q : t.R.length = 0
      · rw [if_pos rfl, if_pos (by omega), if_pos (by rw [hR]; omega)]
        exact .go rfl rfl ⟨⟨h.th, h.top, hR, h.W, h.V, h.val, h.stamp, h.rl, h.wl⟩, h.made, h.cause, h.job, h.life, h.sure, h.alive, h.ph, h.lk, h.tk⟩ rfl rfl rfl (.inr (.inr ⟨rfl, rfl, rfl⟩))
      · rw [if_pos rfl, if_neg (by omega), if_neg (by rw [hR]; omega)]
        exact .go rfl rfl ⟨⟨h.th, h.top, hR, h.W, h.V, h.val, h.stamp, h.rl, h.wl⟩, h.made, h.cause, h.job, h.life, h.sure, h.alive, h.ph, h.lk, h.tk⟩ rfl rfl rfl (.inr (.inl ⟨rfl, rfl, rfl, Int.le_refl _, (by show (0 : Int) < (t.R.length : Int); omega), rfl⟩))
  · have hR := h.R
    refine via (by unfold seeksT; rw [if_neg (by omega), if_pos p]) (by unfold lookedD; rw [if_neg (by omega), if_pos k, hR, e]) ?_
    by_cases q : M.atP (t.R.getD t.i.toNat (0, 0)).1 = (t.R.getD t.i.toNat (0, 0)).2
    · rw [if_pos q, if_pos q]
      unfold seekEnd
      dsimp only
      by_cases q2 : t.i + 1 = (t.R.length : Int)
      · rw [if_pos p, if_pos (by omega), if_pos q2]
        exact .go rfl rfl ⟨⟨h.th, h.top, rfl, h.W, h.V, h.val, h.stamp, h.rl, h.wl⟩, h.made, h.cause, h.job, h.life, h.sure, h.alive, h.ph, h.lk, h.tk⟩ rfl rfl rfl (.inr (.inr ⟨rfl, rfl, n⟩))
      · rw [if_pos p, if_neg (by omega), if_neg q2]
        exact .go rfl rfl ⟨⟨h.th, h.top, rfl, h.W, h.V, h.val, h.stamp, h.rl, h.wl⟩, h.made, h.cause, h.job, h.life, h.sure, h.alive, h.ph, h.lk, h.tk⟩ rfl rfl rfl (.inr (.inl ⟨p, rfl, rfl, (by show (0 : Int) ≤ t.i + 1; omega), (by show t.i + 1 < (t.R.length : Int); omega), n⟩))
    · rw [if_neg q, if_neg q]
      exact .stale (h.abort 2)
  · refine via (by unfold seeksT; rw [if_neg (by omega), if_neg (by omega), if_pos p]) (by unfold lookedD; rw [if_neg (by omega), if_neg (by omega)]) ?_
    by_cases q : M.atP 1 = t.now
    · rw [if_pos q, if_pos (by rw [n]; exact q)]
      unfold seekEnd
      dsimp only
      rw [if_neg (by decide), if_neg (by rw [h.V]; simp)]
      exact .done { t with part := 11, i := 0, stamp := t.now } _ rfl rfl ⟨⟨h.th, h.top, h.R, h.W, h.V, h.val, n, h.rl, h.wl⟩, h.made, h.cause, h.job, h.life, h.sure, h.alive, h.ph, h.lk, h.tk⟩ rfl rfl rfl rfl rfl
    · rw [if_neg q, if_neg (by rw [n]; exact q)]
      exact .go rfl rfl ⟨⟨h.th, h.top, h.R, h.W, h.V, h.val, h.stamp, h.rl, h.wl⟩, h.made, h.cause, h.job, h.life, h.sure, h.alive, h.ph, h.lk, h.tk⟩ rfl rfl rfl (.inl ⟨rfl, rfl⟩)
theorem SeekS.pos (h : SeekS t d) : 0 < d.look ∧ 8 ≤ t.part := by
  rcases h with ⟨p, k⟩ | ⟨p, k, _⟩ | ⟨p, k, _⟩ <;> omega
theorem SeekS.ok (h : SeekS t d) (hR : d.R = t.R) : lookedOk d := by
  rcases h with ⟨p, k⟩ | ⟨p, k, e, i0, i1, n⟩ | ⟨p, k, n⟩
  · exact .inl k
  · exact .inr (.inl ⟨k, by omega, by rw [hR, e]; exact i1⟩)
  · exact .inr (.inr k)
theorem putL_len (l : List (Int × Int)) (k x : Int) (h : l.length ≤ 32) : (putL 32 l k x).length ≤ 32 := by
  unfold putL
  split
  · exact h
  · split
    · rw [List.length_append]; simp; omega
    · exact h
theorem sim_undo (h : Sim t d) (M : MemS) (j : t.job = 5) (l : t.life = 3) : SimR (undoT M t) (stepUndoD M d) := by
  have hp := h.ph (by omega); have hl := h.lk (by omega)
  have key : ∀ (t' : TxS) (d' : DxS), SimB t' d' → d'.made = t'.made → d'.cause = t'.cause → d'.job = t'.job → d'.sure = false → d'.alive = false → d'.phased = t'.phased → d'.locked = t'.took → t'.life = 3 → t'.job = 5 → SimA (undoneT t') (undoneD d') := by
    intro t' d' hb h1 h2 h3 h4 h5 h6 h7 h8 h9
    unfold undoneT undoneD
    have e0 : (d'.locked || d'.phased) = (t'.took || t'.phased) := by rw [h6, h7]
    rw [e0]
    by_cases q : (t'.took || t'.phased) = true
    · rw [if_pos q, if_pos q]
      exact ⟨rfl, hb, h1, h2, h3, by rw [h4, h8]; rfl, by rw [h5, h8]; rfl, fun _ => h6, fun _ => h7, fun e => absurd e (by rw [h8]; decide), .inr (.inl ⟨h9, h8⟩)⟩
    · rw [if_neg q, if_neg q]
      exact ⟨rfl, ⟨hb.th, hb.top, hb.R, hb.W, hb.V, hb.val, hb.stamp, hb.rl, hb.wl⟩, h1, h2, rfl, (by show d'.sure = (t'.life == 2); rw [h4, h8]; rfl), (by show d'.alive = ((t'.life == 1) || ((t'.life == 2) && !((0 : Int) == 0))); rw [h5, h8]; rfl), fun _ => h6, fun _ => h7, fun e => absurd (show t'.life = 1 from e) (by rw [h8]; decide), .inl rfl⟩
  have hsu : d.sure = false := by rw [h.sure, l]; rfl
  have hal : d.alive = false := by rw [h.alive, l]; rfl
  by_cases q : t.took = true
  · refine via (by unfold undoT; rw [if_pos q]) (by unfold stepUndoD; rw [if_pos (by rw [hl]; exact q), h.stamp]) ?_
    have := key { t with took := false } { d with locked := false, stamp := t.stamp } ⟨h.th, h.top, h.R, h.W, h.V, h.val, rfl, h.rl, h.wl⟩ h.made h.cause h.job hsu hal hp rfl l j
    exact ⟨rfl, this.1, this.2⟩
  · have hph : phA t = phD d := by unfold phA phD; rw [h.th]
    refine via (by unfold undoT; rw [if_neg q, hph]) (by unfold stepUndoD; rw [if_neg (by rw [hl]; exact q)]) ?_
    have := key { t with phased := false } { d with phased := false } ⟨h.th, h.top, h.R, h.W, h.V, h.val, h.stamp, h.rl, h.wl⟩ h.made h.cause h.job hsu hal rfl hl l j
    exact ⟨rfl, this.1, this.2⟩
theorem sim_look (h : SimL t d) (M : MemS) (j : t.job = 2) (s : LookS t d) : SimR (if 8 ≤ t.part then seeksT M t else lookT M t) (stepReadD M d) := by
  rcases s with ⟨p, s0, k, e⟩ | ⟨p, s0, k, e, g⟩ | ⟨s0, e, s⟩
  · refine via (by unfold lookT; rw [if_neg (by omega), if_pos p]) (by unfold stepReadD; rw [if_neg (by omega), if_pos s0, e]) ?_
    exact ⟨rfl, rfl, SimL.sim (t := { t with val := M.atP t.pl, part := 1 }) (d := { d with got := M.atP t.pl, state := 2, pl := t.pl }) ⟨⟨h.th, h.top, h.R, h.W, h.V, h.val, h.stamp, h.rl, h.wl⟩, h.made, h.cause, h.job, h.life, h.sure, h.alive, h.ph, h.lk, h.tk⟩ (.inr (.inr (.inr (.inl ⟨j, h.life, .inr (.inl ⟨rfl, rfl, k, rfl, rfl⟩)⟩))))⟩
  · refine via (by unfold lookT; rw [if_neg (by omega), if_neg (by omega), if_pos p]) (by unfold stepReadD; rw [if_neg (by omega), if_neg (by omega)]) ?_
    by_cases q : M.atP 1 = t.stamp
    · refine via (by unfold lookEnd; rw [if_pos q, if_neg (by rw [h.V]; simp)]) (by rw [if_pos (by rw [h.stamp]; exact q), h.R, e, g]) ?_
      exact ⟨rfl, rfl, SimL.sim (t := doneT { t with part := 2, i := 0, value := t.val, R := putL 32 t.R t.pl t.val }) (d := endD { d with state := 3, val := t.val, R := putL 32 t.R t.pl t.val, pl := t.pl, got := t.val }) ⟨⟨h.th, h.top, rfl, h.W, h.V, rfl, h.stamp, putL_len _ _ _ h.rl, h.wl⟩, h.made, h.cause, rfl, h.life, h.sure, h.alive, h.ph, h.lk, h.tk⟩ (.inl rfl)⟩
    · refine via (by rw [if_neg q]) (by rw [if_neg (by rw [h.stamp]; exact q)]) ?_
      exact ⟨rfl, rfl, SimL.sim (t := { t with part := 8 }) (d := { d with look := 1, state := 0 }) ⟨⟨h.th, h.top, h.R, h.W, h.V, h.val, h.stamp, h.rl, h.wl⟩, h.made, h.cause, h.job, h.life, h.sure, h.alive, h.ph, h.lk, h.tk⟩ (.inr (.inr (.inr (.inl ⟨j, h.life, .inr (.inr ⟨rfl, e, .inl ⟨rfl, rfl⟩⟩)⟩))))⟩
  · have hk := s.pos
    have hr := sim_looked h M s
    refine via (by rw [if_pos hk.2]) (by unfold stepReadD; rw [if_pos hk.1]) ?_
    generalize seeksT M t = x at *
    generalize lookedD M d = y at *
    cases hr with
    | go e0 e1 e2 e3 e4 e5 e6 =>
      exact ⟨rfl, rfl, e2.sim (.inr (.inr (.inr (.inl ⟨e1.trans j, e2.life, .inr (.inr ⟨e3.trans s0, e4.trans (e.trans e5.symm), e6⟩)⟩))))⟩
    | stale e1 => exact ⟨rfl, e1.1, e1.2⟩
    | done t' d' e0 e1 e2 e3 e4 e5 e6 e7 =>
      subst e7
      refine via (by unfold foundT; rw [if_neg (by omega), if_neg (by omega)]) rfl ?_
      exact ⟨rfl, rfl, SimL.sim (t := { t' with part := 0 }) (d := d') ⟨⟨e2.th, e2.top, e2.R, e2.W, e2.V, e2.val, e2.stamp, e2.rl, e2.wl⟩, e2.made, e2.cause, e2.job, e2.life, e2.sure, e2.alive, e2.ph, e2.lk, e2.tk⟩ (.inr (.inr (.inr (.inl ⟨e1.trans j, e2.life, .inl ⟨rfl, e3.trans s0, e6, e4.trans (e.trans e5.symm)⟩⟩))))⟩
/-- it is decided -/
theorem sim_sure (hb : SimB t d) (hm : d.made = t.made) (hc : d.cause = t.cause) (hj : d.job = t.job) (ha : d.alive = true) (j : t.job = 4) (s : d.state = 5) (p : t.part = 2) (i : t.i = 0) (k : (0 : Int) < (t.W.length : Int) → t.took = true) (k2 : ¬ (0 : Int) < (t.W.length : Int) → t.took = false) : Sim (settleT t) (sureD d).1 ∧ (sureD d).2 = 0 := by
  unfold settleT sureD
  rw [if_pos p, if_pos s, if_neg (by rw [hb.V, i]; simp)]
  by_cases q : (0 : Int) < (t.W.length : Int)
  · rw [if_pos q]
    refine ⟨⟨⟨hb.th, hb.top, hb.R, hb.W, hb.V, hb.val, hb.stamp, hb.rl, hb.wl⟩, hm, hc, hj, rfl, ?_, fun e => absurd rfl e, fun e => absurd rfl e, fun e => absurd (show (2 : Int) = 1 from e) (by decide), .inr (.inr (.inr (.inr ⟨j, .inr ⟨rfl, .inl ⟨rfl, k q, ?_, rfl, Int.le_refl _, q⟩⟩⟩)))⟩, rfl⟩
    · show d.alive = (((2 : Int) == 1) || (((2 : Int) == 2) && !(t.job == 0)))
      rw [ha, j]; rfl
    · show (if (0 : Int) < (d.W.length : Int) then (6 : Int) else 8) = 6
      rw [hb.W, if_pos q]
  · rw [if_neg q, k2 q]
    refine ⟨⟨⟨hb.th, hb.top, hb.R, hb.W, hb.V, hb.val, hb.stamp, hb.rl, hb.wl⟩, hm, hc, hj, rfl, ?_, fun e => absurd rfl e, fun e => absurd rfl e, fun e => absurd (show (2 : Int) = 1 from e) (by decide), .inr (.inr (.inr (.inr ⟨j, .inr ⟨rfl, .inr (.inr ⟨rfl, ?_⟩)⟩⟩)))⟩, rfl⟩
    · show d.alive = (((2 : Int) == 1) || (((2 : Int) == 2) && !(t.job == 0)))
      rw [ha, j]; rfl
    · show (if (0 : Int) < (d.W.length : Int) then (6 : Int) else 8) = 8
      rw [hb.W, if_neg q]
theorem sim_comm1 (h : SimL t d) (M : MemS) (j : t.job = 4) (s : (t.part = 3 ∧ d.state = 0 ∧ d.look = 0) ∨ ((0 : Int) < (t.W.length : Int) ∧ ((t.part = 4 ∧ d.state = 1 ∧ d.look = 0) ∨ (d.state = 1 ∧ SeekS t d)))) : SimR (if 8 ≤ t.part then seeksT M t else commitT M t) (stepCommitD M d) := by
  have hph : phA t = phD d := by unfold phA phD; rw [h.th]
  rcases s with ⟨p, s0, k⟩ | ⟨hq, ⟨p, s0, k⟩ | ⟨s0, s⟩⟩
  · by_cases q : (0 : Int) < (t.W.length : Int)
    · refine via (by unfold commitT; rw [if_neg (by omega), if_pos p, if_pos q, hph]) (by unfold stepCommitD; rw [if_pos s0, if_pos (by rw [h.W]; exact q)]) ?_
      have := sim_seat (t := { t with phased := true }) (d := { d with phased := true, i := 0, state := 1 }) ⟨⟨h.th, h.top, h.R, h.W, h.V, h.val, h.stamp, h.rl, h.wl⟩, h.made, h.cause, h.job, h.life, h.sure, h.alive, rfl, h.lk, h.tk⟩ j k q
      exact ⟨rfl, this.1, this.2⟩
    · refine via (by unfold commitT; rw [if_neg (by omega), if_pos p, if_neg q, hph]) (by unfold stepCommitD; rw [if_pos s0, if_neg (by rw [h.W]; exact q)]) ?_
      have := sim_sure (t := { t with phased := true, part := 2, i := 0 }) (d := { d with phased := true, i := 0, state := 5 }) ⟨h.th, h.top, h.R, h.W, h.V, h.val, h.stamp, h.rl, h.wl⟩ h.made h.cause h.job h.alive j rfl rfl rfl (fun e => absurd e q) (fun _ => h.tk)
      exact ⟨rfl, this.2, this.1⟩
  · refine via (by unfold commitT; rw [if_neg (by omega), if_neg (by omega), if_pos p]) (by unfold stepCommitD takeD; rw [if_neg (by omega), if_pos s0, if_neg (by omega), h.stamp]) ?_
    by_cases q : M.swapOk 1 t.stamp = true
    · refine via (by rw [if_pos q]) (by rw [if_pos q]) ?_
      have := sim_sure (t := { t with took := true, made := wrap64 (t.stamp + 2), part := 2, i := 0 }) (d := { d with made := wrap64 (t.stamp + 2), locked := true, state := 5, i := 0, stamp := t.stamp }) ⟨h.th, h.top, h.R, h.W, h.V, h.val, rfl, h.rl, h.wl⟩ rfl h.cause h.job h.alive j rfl rfl rfl (fun _ => rfl) (fun e => absurd hq e)
      exact ⟨rfl, this.2, this.1⟩
    · refine via (by rw [if_neg q]) (by rw [if_neg q]) ?_
      exact ⟨rfl, rfl, SimL.sim (t := { t with part := 8 }) (d := { d with look := 1, stamp := t.stamp }) ⟨⟨h.th, h.top, h.R, h.W, h.V, h.val, rfl, h.rl, h.wl⟩, h.made, h.cause, h.job, h.life, h.sure, h.alive, h.ph, h.lk, h.tk⟩ (.inr (.inr (.inr (.inr ⟨j, .inl ⟨h.life, .inr ⟨hq, .inr ⟨s0, .inl ⟨rfl, rfl⟩⟩⟩⟩⟩))))⟩
  · have hk := s.pos
    have hr := sim_looked h M s
    refine via (by rw [if_pos hk.2]) (by unfold stepCommitD takeD; rw [if_neg (by omega), if_pos s0, if_pos hk.1]) ?_
    generalize seeksT M t = x at *
    generalize lookedD M d = y at *
    cases hr with
    | go e0 e1 e2 e3 e4 e5 e6 =>
      exact ⟨rfl, rfl, e2.sim (.inr (.inr (.inr (.inr ⟨e1.trans j, .inl ⟨e2.life, .inr ⟨by rw [e0]; exact hq, .inr ⟨e3.trans s0, e6⟩⟩⟩⟩))))⟩
    | stale e1 => exact ⟨rfl, e1.1, e1.2⟩
    | done t' d' e0 e1 e2 e3 e4 e5 e6 e7 =>
      subst e7
      refine via (by unfold foundT; rw [if_neg (by omega), if_pos (by omega)]) rfl ?_
      have := sim_seat e2 (e1.trans j) e6 (by rw [e0]; exact hq)
      exact ⟨rfl, this.1, this.2⟩
theorem sim_comm2 (h : Sim t d) (M : MemS) (j : t.job = 4) (l : t.life = 2) (s : (t.part = 5 ∧ t.took = true ∧ d.state = 6 ∧ d.i = t.i ∧ 0 ≤ t.i ∧ t.i < (t.W.length : Int)) ∨ (t.part = 6 ∧ d.state = 7) ∨ (t.part = 7 ∧ d.state = 8)) : SimR (if 8 ≤ t.part then seeksT M t else commitT M t) (stepCommitD M d) := by
  have hph : phA t = phD d := by unfold phA phD; rw [h.th]
  rcases s with ⟨p, k, s0, e, i0, i1⟩ | ⟨p, s0⟩ | ⟨p, s0⟩
  · refine via (by unfold commitT; rw [if_neg (by omega), if_neg (by omega), if_neg (by omega), if_neg (by omega), if_pos p]) (by unfold stepCommitD writesD; rw [if_neg (by omega), if_neg (by omega), if_pos s0, h.W, e]) ?_
    by_cases q : t.i + 1 = (t.W.length : Int)
    · refine via (by unfold settleT; rw [if_neg (by show ¬ t.part = 2; omega), if_pos p, if_neg (by show ¬ t.i + 1 < (t.W.length : Int); omega), k]) (by rw [if_pos q]) ?_
      exact ⟨rfl, rfl, ⟨h.th, h.top, h.R, rfl, h.V, h.val, h.stamp, h.rl, h.wl⟩, h.made, h.cause, h.job, h.sure, h.alive, fun e => absurd l e, fun e => absurd l e, fun e => absurd (show t.life = 1 from e) (by omega), .inr (.inr (.inr (.inr ⟨j, .inr ⟨l, .inr (.inl ⟨rfl, rfl⟩)⟩⟩)))⟩
    · refine via (by unfold settleT; rw [if_neg (by show ¬ t.part = 2; omega), if_pos p, if_pos (by show t.i + 1 < (t.W.length : Int); omega)]) (by rw [if_neg q]) ?_
      exact ⟨rfl, rfl, ⟨h.th, h.top, h.R, rfl, h.V, h.val, h.stamp, h.rl, h.wl⟩, h.made, h.cause, h.job, h.sure, h.alive, fun e => absurd l e, fun e => absurd l e, fun e => absurd (show t.life = 1 from e) (by omega), .inr (.inr (.inr (.inr ⟨j, .inr ⟨l, .inl ⟨p, k, s0, rfl, (by show (0 : Int) ≤ t.i + 1; omega), (by show t.i + 1 < (t.W.length : Int); omega)⟩⟩⟩)))⟩
  · refine via (by unfold commitT; rw [if_neg (by omega), if_neg (by omega), if_neg (by omega), if_neg (by omega), if_neg (by omega), if_pos p, show settleT { t with took := false, part := 7 } = { t with took := false, part := 7 } from by unfold settleT; rw [if_neg (by show ¬ (7 : Int) = 2; decide), if_neg (by show ¬ (7 : Int) = 5; decide)]]) (by unfold stepCommitD writesD; rw [if_neg (by omega), if_neg (by omega), if_neg (by omega), if_pos s0, h.made]) ?_
    exact ⟨rfl, rfl, ⟨h.th, h.top, h.R, h.W, h.V, h.val, h.stamp, h.rl, h.wl⟩, rfl, h.cause, h.job, h.sure, h.alive, fun e => absurd l e, fun e => absurd l e, fun e => absurd (show t.life = 1 from e) (by omega), .inr (.inr (.inr (.inr ⟨j, .inr ⟨l, .inr (.inr ⟨rfl, rfl⟩)⟩⟩)))⟩
  · have ha : ∀ s : Int, Sim (doneT { t with phased := false, stamp := s }) (endD { d with stamp := s, alive := false }) := fun s => ⟨⟨h.th, h.top, h.R, h.W, h.V, h.val, rfl, h.rl, h.wl⟩, h.made, h.cause, rfl, h.sure, (by show false = ((t.life == 1) || ((t.life == 2) && !((0 : Int) == 0))); rw [l]; rfl), fun e => absurd l e, fun e => absurd l e, fun e => absurd (show t.life = 1 from e) (by omega), .inl rfl⟩
    by_cases q : (0 : Int) < (t.W.length : Int)
    · refine via (by unfold commitT; rw [if_neg (by omega), if_neg (by omega), if_neg (by omega), if_neg (by omega), if_neg (by omega), if_neg (by omega), if_pos q, hph]) (by unfold stepCommitD writesD; rw [if_neg (by omega), if_neg (by omega), if_neg (by omega), if_neg (by omega), if_pos (by rw [h.W]; exact q), h.made]) ?_
      exact ⟨rfl, rfl, (by have := ha t.made; exact ⟨⟨this.th, this.top, this.R, this.W, this.V, this.val, this.stamp, this.rl, this.wl⟩, rfl, this.cause, this.job, this.sure, this.alive, this.ph, this.lk, this.tk, .inl rfl⟩)⟩
    · refine via (by unfold commitT; rw [if_neg (by omega), if_neg (by omega), if_neg (by omega), if_neg (by omega), if_neg (by omega), if_neg (by omega), if_neg q, hph]) (by unfold stepCommitD writesD; rw [if_neg (by omega), if_neg (by omega), if_neg (by omega), if_neg (by omega), if_neg (by rw [h.W]; exact q), h.stamp]) ?_
      exact ⟨rfl, rfl, (by have := ha t.stamp; exact ⟨⟨this.th, this.top, this.R, this.W, this.V, this.val, rfl, this.rl, this.wl⟩, h.made, this.cause, this.job, this.sure, this.alive, this.ph, this.lk, this.tk, .inl rfl⟩)⟩
theorem sim_step (h : Sim t d) (M : MemS) : SimR (stepX M t) (stepD M d) := by
  have hjd := h.job
  rcases h.st with j | ⟨j, l⟩ | ⟨j, l, p⟩ | ⟨j, l, s⟩ | ⟨j, s⟩
  · refine via (by unfold stepX; rw [if_pos j]) (by unfold stepD; rw [if_neg (by omega), if_neg (by omega), if_neg (by omega), if_neg (by omega)]) ?_
    exact ⟨rfl, rfl, h⟩
  · refine via (by unfold stepX; rw [if_neg (by omega), if_pos j]) (by unfold stepD; rw [if_neg (by omega), if_neg (by omega), if_neg (by omega), if_pos (by omega)]) ?_
    exact sim_undo h M j l
  · have hL := h.live l
    refine via (by unfold stepX; rw [if_neg (by omega), if_neg (by omega), if_neg (by omega), if_pos j]) (by unfold stepD; rw [if_pos (by omega)]) ?_
    unfold stepBeginD
    by_cases q : oddB (M.atP 1) = true
    · refine via (by rw [if_pos q]) (by rw [if_pos q]) ?_
      exact ⟨rfl, rfl, h⟩
    · refine via (by rw [if_neg q]) (by rw [if_neg q]) ?_
      exact ⟨rfl, rfl, SimL.sim (t := doneT { t with stamp := M.atP 1 }) (d := endD { d with stamp := M.atP 1 }) ⟨⟨h.th, h.top, h.R, h.W, h.V, h.val, rfl, h.rl, h.wl⟩, h.made, h.cause, rfl, l, hL.sure, hL.alive, hL.ph, hL.lk, hL.tk⟩ (.inl rfl)⟩
  · have := sim_look (h.live l) M j s
    refine via ?_ (by unfold stepD; rw [if_neg (by omega), if_pos (by omega)]) this
    unfold stepX
    rw [if_neg (by omega), if_neg (by omega)]
    by_cases q : 8 ≤ t.part
    · rw [if_pos q, if_pos q]
    · rw [if_neg q, if_neg q, if_neg (by omega), if_pos j]
  · have ex : stepX M t = (if 8 ≤ t.part then seeksT M t else commitT M t) := by
      unfold stepX
      rw [if_neg (by omega), if_neg (by omega)]
      by_cases q : 8 ≤ t.part
      · rw [if_pos q, if_pos q]
      · rw [if_neg q, if_neg q, if_neg (by omega), if_neg (by omega)]
    refine via ex (by unfold stepD; rw [if_neg (by omega), if_neg (by omega), if_pos (by omega)]) ?_
    rcases s with ⟨l, s⟩ | ⟨l, s⟩
    · exact sim_comm1 (h.live l) M j s
    · exact sim_comm2 h M j l s
theorem Sim.idle (h : Sim t d) : idleD d = ((t.life == 1) && (t.job == 0)) := by
  unfold idleD
  rw [h.alive, h.job]
  by_cases j : t.job = 0
  · rw [j]; simp
  · have : (t.job == 0) = false := by simpa using j
    rw [this]; simp
theorem sim_begin (h : Sim t d) : SimA (beginT t) (beginD d) := by
  by_cases q : t.job = 0 ∧ t.life ≠ 1
  · have hd : ¬ (d.alive = true ∨ d.job ≠ 0) := by
      rw [h.alive, h.job, q.1]
      have : (t.life == 1) = false := by simpa using q.2
      rw [this]; simp
    refine via (by unfold beginT; rw [if_pos q]) (by unfold beginD; rw [if_neg hd]) ?_
    exact ⟨rfl, ⟨h.th, h.top, rfl, rfl, rfl, rfl, h.stamp, Nat.zero_le _, Nat.zero_le _⟩, rfl, rfl, rfl, rfl, rfl, fun _ => rfl, fun _ => rfl, fun _ => rfl, .inr (.inr (.inl ⟨rfl, rfl, rfl⟩))⟩
  · have hd : d.alive = true ∨ d.job ≠ 0 := by
      rw [h.alive, h.job]
      by_cases j : t.job = 0
      · have l : t.life = 1 := Classical.byContradiction fun e => q ⟨j, e⟩
        exact .inl (by rw [l]; rfl)
      · exact .inr j
    refine via (by unfold beginT; rw [if_neg q]) (by unfold beginD; rw [if_pos hd]) ?_
    exact ⟨rfl, h⟩
theorem idle_life (h : ((t.life == 1) && (t.job == 0)) = true) : t.life = 1 ∧ t.job = 0 := by simpa using h
theorem inD_of {p : Int} (h : isD p) : inD p = true := by rcases h with rfl | rfl | rfl | rfl <;> rfl
theorem sim_read (h : Sim t d) {p : Int} (hp : isD p) : SimA (readT t p) (readD d p) := by
  have hid := h.idle
  by_cases q : ((t.life == 1) && (t.job == 0)) = true
  · obtain ⟨l, j⟩ := idle_life q
    have hL := h.live l
    by_cases w : hasW t.W p = true
    · refine via (by unfold readT; rw [if_pos q, if_pos w]) (by unfold readD; rw [if_pos (by rw [hid]; exact q), if_pos (inD_of hp), if_pos (by rw [h.W]; exact w)]) ?_
      exact ⟨rfl, ⟨h.th, h.top, h.R, h.W, h.V, (by show getW d.W p = getW t.W p; rw [h.W]), h.stamp, h.rl, h.wl⟩, h.made, h.cause, (by show (0 : Int) = t.job; rw [j]), h.sure, h.alive, h.ph, h.lk, h.tk, .inl j⟩
    · by_cases r : roomFor 32 t.R p = true
      · refine via (by unfold readT; rw [if_pos q, if_neg w, if_neg (fun e => e.elim (hash_ok p hp) (fun e => by rw [r] at e; cases e))]) (by unfold readD; rw [if_pos (by rw [hid]; exact q), if_pos (inD_of hp), if_neg (by rw [h.W]; exact w), if_pos (by rw [h.R]; exact r)]) ?_
        exact ⟨rfl, SimL.sim (t := askT { t with pl := p } 2 0) (d := { askD d 2 with asked := askedL d.W p d.asked, pl := p }) ⟨⟨h.th, h.top, h.R, h.W, h.V, h.val, h.stamp, h.rl, h.wl⟩, h.made, h.cause, rfl, l, hL.sure, hL.alive, hL.ph, hL.lk, hL.tk⟩ (.inr (.inr (.inr (.inl ⟨rfl, l, .inl ⟨rfl, rfl, rfl, rfl⟩⟩))))⟩
      · refine via (by unfold readT; rw [if_pos q, if_neg w, if_pos (.inr (by simpa using r))]) (by unfold readD; rw [if_pos (by rw [hid]; exact q), if_pos (inD_of hp), if_neg (by rw [h.W]; exact w), if_neg (by rw [h.R]; exact r)]) ?_
        exact sim_abort (t := { t with pl := p }) (d := { askD d 2 with asked := askedL d.W p d.asked }) ⟨h.th, h.top, h.R, h.W, h.V, h.val, h.stamp, h.rl, h.wl⟩ hL.sure hL.ph hL.lk 4
  · refine via (by unfold readT; rw [if_neg q]) (by unfold readD; rw [if_neg (by rw [hid]; exact q)]) ?_
    exact ⟨rfl, h⟩
theorem sim_write (h : Sim t d) {p : Int} (hp : isD p) (x : Int) : SimA (writeT t p x) (writeD d p x) := by
  have hid := h.idle
  by_cases q : ((t.life == 1) && (t.job == 0)) = true
  · obtain ⟨l, j⟩ := idle_life q
    have hL := h.live l
    have hb : SimB { t with W := putW 32 t.W p x } { d with W := putW 32 d.W p x } := ⟨h.th, h.top, h.R, (by show putW 32 d.W p x = _; rw [h.W]), h.V, h.val, h.stamp, h.rl, putW32 _ _ _ h.wl⟩
    by_cases w : putOk 32 t.W p = true
    · refine via (by unfold writeT; rw [if_pos q, if_neg (hash_ok p hp), if_pos w]) (by unfold writeD; rw [if_pos (by rw [hid]; exact q), if_pos (inD_of hp), if_pos (by rw [h.W]; exact w)]) ?_
      exact ⟨rfl, hb, h.made, h.cause, h.job, h.sure, h.alive, h.ph, h.lk, h.tk, .inl j⟩
    · refine via (by unfold writeT; rw [if_pos q, if_neg (hash_ok p hp), if_neg w]) (by unfold writeD; rw [if_pos (by rw [hid]; exact q), if_pos (inD_of hp), if_neg (by rw [h.W]; exact w)]) ?_
      exact sim_abort hb hL.sure hL.ph hL.lk 4
  · refine via (by unfold writeT; rw [if_neg q]) (by unfold writeD; rw [if_neg (by rw [hid]; exact q)]) ?_
    exact ⟨rfl, h⟩
theorem sim_commit (h : Sim t d) : SimA (commitAsk t) (commitAskD d) := by
  have hid := h.idle
  by_cases q : ((t.life == 1) && (t.job == 0)) = true
  · obtain ⟨l, j⟩ := idle_life q
    have hL := h.live l
    refine via (by unfold commitAsk; rw [if_pos q]) (by unfold commitAskD; rw [if_pos (by rw [hid]; exact q)]) ?_
    exact ⟨rfl, SimL.sim (t := askT t 4 3) (d := askD d 4) ⟨⟨h.th, h.top, h.R, h.W, h.V, h.val, h.stamp, h.rl, h.wl⟩, h.made, h.cause, rfl, l, hL.sure, hL.alive, hL.ph, hL.lk, hL.tk⟩ (.inr (.inr (.inr (.inr ⟨rfl, .inl ⟨l, .inl ⟨rfl, rfl, rfl⟩⟩⟩))))⟩
  · refine via (by unfold commitAsk; rw [if_neg q]) (by unfold commitAskD; rw [if_neg (by rw [hid]; exact q)]) ?_
    exact ⟨rfl, h⟩
def dx0 (th clk : Int) : DxS := { th := th, clk := clk, top := 1000, R := [], asked := 0, W := [], alive := false, sure := false, phased := false, locked := false, job := 0, state := 0, i := 0, look := 0, seen := 0, pl := 0, got := 0, pre := 0, next := 0, val := 0, stamp := 0, made := 0, cause := 0 }
theorem sim_new (th clk : Int) : Sim (tx0 th) (dx0 th clk) :=
  ⟨⟨rfl, rfl, rfl, rfl, rfl, rfl, rfl, Nat.zero_le _, Nat.zero_le _⟩, rfl, rfl, rfl, rfl, rfl, fun _ => rfl, fun _ => rfl, fun _ => rfl, .inl rfl⟩
theorem Sim.dok (h : Sim t d) : DOk d := by
  refine ⟨by rw [h.R]; exact h.rl, by rw [h.W]; exact h.wl, ?_⟩
  have hj := h.job
  rcases h.st with j | ⟨j, l⟩ | ⟨j, l, p⟩ | ⟨j, l, s⟩ | ⟨j, s⟩
  · exact .inl (hj.trans j)
  · exact .inr (.inr (.inr (.inr (hj.trans j))))
  · exact .inr (.inl (hj.trans j))
  · refine .inr (.inr (.inl ⟨hj.trans j, ?_⟩))
    rcases s with ⟨_, s0, k, _⟩ | ⟨_, s0, k, _⟩ | ⟨_, _, s⟩
    · exact .inl ⟨k, .inl s0⟩
    · exact .inl ⟨k, .inr s0⟩
    · exact .inr (s.ok h.R)
  · refine .inr (.inr (.inr (.inl ⟨hj.trans j, ?_⟩)))
    rcases s with ⟨_, ⟨_, s0, k⟩ | ⟨_, ⟨_, s0, k⟩ | ⟨s0, s⟩⟩⟩ | ⟨_, ⟨_, _, s0, e, i0, i1⟩ | ⟨_, s0⟩ | ⟨_, s0⟩⟩
    · exact .inl ⟨s0, k⟩
    · exact .inr (.inl ⟨s0, .inl k⟩)
    · exact .inr (.inl ⟨s0, .inr (s.ok h.R)⟩)
    · exact .inr (.inr (.inl ⟨s0, by omega, by rw [e, h.W]; exact i1⟩))
    · exact .inr (.inr (.inr (.inl s0)))
    · exact .inr (.inr (.inr (.inr s0)))
end
end Go.Proofs.YtlcmnhfiggkmnaaGreat
namespace Go.Proofs.YtlcmnhfiggkmnaaGreat
open Go.RowKit
def nilV : Value := .slice none 0 0
def dxC (d : DxS) (rv wv : Value) : Array Value :=
  #[.int .i64 3, .int .i64 1, .int .i64 3, .int .i64 0, .int .i64 4, .bool true, .int .i64 d.th, .int .i64 d.clk, .int .i64 d.top, .int .i64 32, rv, .int .i64 32, .int .i64 d.asked, wv, .slice none 0 0, .bool d.alive, .bool d.sure, .bool d.phased, .bool d.locked, .int .i64 d.job, .int .i64 d.state, .int .i64 d.i, .int .i64 d.look, .int .i64 d.seen, .int .i64 d.pl, .int .i64 d.got, .int .i64 d.pre, .int .i64 d.next, .int .i64 d.val, .int .i64 d.stamp, .int .i64 d.made, .int .i64 d.cause, .slice none 0 0, .slice none 0 0, .int .i64 0, .int .i64 0, .int .i64 0, .int .i64 0]
/-- the blocks of an attempt -/
def dxO (Y : Nat) (rv wv : Value) : Nat → Prop := fun g => g = Y ∨ rv.ownBlock = some g ∨ wv.ownBlock = some g
structure DxAt (w : World) (Y : Nat) (rv wv : Value) (d : DxS) : Prop where
  hd : w.heap[Y]? = some (.cells (dxC d rv wv) 77 (0, 0))
  rs : w.ownsRow 0 97 2 rv d.R.length (flat d.R)
  ws : w.ownsRow 0 97 2 wv d.W.length (flat d.W)
  o1 : ∀ g, rv.ownBlock = some g → g ≠ Y ∧ wv.ownBlock ≠ some g
  o2 : ∀ g, wv.ownBlock = some g → g ≠ Y
  nn : ∀ x ∈ d.W, 0 ≤ x.1
section
variable {w w' : World} {Y : Nat} {rv wv : Value} {d : DxS} {S : Nat → Prop}
theorem DxAt.keep (h : DxAt w Y rv wv d) (k : Keeps S w w') (hS : ∀ g, dxO Y rv wv g → ¬ S g) : DxAt w' Y rv wv d :=
  ⟨k.blk h.hd (hS Y (.inl rfl)), k.owns h.rs (fun g e => hS g (.inr (.inl e))), k.owns h.ws (fun g e => hS g (.inr (.inr e))), h.o1, h.o2, h.nn⟩
theorem DxAt.no (h : DxAt w Y rv wv d) (k : Keeps NoS w w') : DxAt w' Y rv wv d := h.keep k (fun _ _ f => f)
theorem DxAt.c (h : DxAt w Y rv wv d) (k : Nat) {u : Value} (hu : (dxC d rv wv)[k]? = some u) : w.cell? ⟨Y, k, none⟩ = some u := by rw [blk_cell h.hd, hu]
theorem DxAt.f (h : DxAt w Y rv wv d) (k : Nat) : w.frozen? ⟨Y, k, none⟩ = false := blk_free h.hd k
theorem DxAt.lt (h : DxAt w Y rv wv d) : Y < w.heap.size := blk_lt h.hd
theorem DxAt.olt (h : DxAt w Y rv wv d) {g : Nat} (e : dxO Y rv wv g) : g < w.heap.size := by
  rcases e with e | e | e
  · rw [e]; exact h.lt
  · exact (h.rs.lt g e).2
  · exact (h.ws.lt g e).2
theorem DxAt.rsl (h : DxAt w Y rv wv d) : ∃ p c, rv = .slice p d.R.length c := owns_slice h.rs
theorem DxAt.wsl (h : DxAt w Y rv wv d) : ∃ p c, wv = .slice p d.W.length c := owns_slice h.ws
theorem DxAt.rW (h : DxAt w Y rv wv d) (hl : d.R.length ≤ 32) : SliceW w rv d.R := by
  rcases owns_words h.rs with h1 | ⟨g, cap, h1, _, _, h4⟩
  · exact .inl h1
  · exact .inr ⟨g, cap, h1, by omega, h4⟩
theorem DxAt.wW (h : DxAt w Y rv wv d) (hl : d.W.length ≤ 32) : SliceW w wv d.W := by
  rcases owns_words h.ws with h1 | ⟨g, cap, h1, _, _, h4⟩
  · exact .inl h1
  · exact .inr ⟨g, cap, h1, by omega, h4⟩
/-- a field is laid anew -/
theorem DxAt.set (h : DxAt w Y rv wv d) (k : Nat) (u : Value) {d' : DxS} (hc : (dxC d rv wv).setIfInBounds k u = dxC d' rv wv) (hR : d'.R = d.R) (hW : d'.W = d.W) : DxAt (w.setCell ⟨Y, k, none⟩ u) Y rv wv d' := by
  have kk : Keeps (just Y) w (w.setCell ⟨Y, k, none⟩ u) := (Keeps.refl (just Y) w).setCell (p := ⟨Y, k, none⟩) (fun _ => rfl) u
  refine ⟨by rw [← hc]; exact blk_set h.hd k u, ?_, ?_, h.o1, h.o2, by rw [hW]; exact h.nn⟩
  · rw [hR]; exact kk.owns h.rs (fun g e e2 => (h.o1 g e).1 e2)
  · rw [hW]; exact kk.owns h.ws (fun g e e2 => h.o2 g e e2)
end
structure DX (w : World) (c : Nat) (u : Value) (M : MemS) (Y : Nat) (rv wv : Value) (d : DxS) : Prop where
  tx : DxAt w Y rv wv d
  mm : RefAt w c u M
  ap : ∀ g, own2m c u g → ¬ dxO Y rv wv g
def DXP (w w' : World) (c : Nat) (u : Value) (M : MemS) (Y : Nat) (rv wv : Value) (d : DxS) : Prop :=
  ∃ rv' wv', DX w' c u M Y rv' wv' d ∧ Keeps (fun g => dxO Y rv wv g ∨ own2m c u g) w w' ∧ ∀ g, dxO Y rv' wv' g → dxO Y rv wv g ∨ w.heap.size ≤ g
section
variable {w w' w2 : World} {c Y : Nat} {u rv wv : Value} {M M' : MemS} {d d' : DxS}
theorem DX.no (h : DX w c u M Y rv wv d) (k : Keeps NoS w w') : DX w' c u M Y rv wv d := ⟨h.tx.no k, h.mm.keep k (fun f => f) (fun _ _ f => f), h.ap⟩
theorem DX.self (h : DX w c u M Y rv wv d) : DXP w w c u M Y rv wv d := ⟨rv, wv, h, Keeps.refl _ _, fun _ e => .inl e⟩
theorem DX.set (h : DX w c u M Y rv wv d) (k : Nat) (z : Value) {d' : DxS} (hc : (dxC d rv wv).setIfInBounds k z = dxC d' rv wv) (hR : d'.R = d.R) (hW : d'.W = d.W) : DX (w.setCell ⟨Y, k, none⟩ z) c u M Y rv wv d' := by
  have kk : Keeps (just Y) w (w.setCell ⟨Y, k, none⟩ z) := (Keeps.refl (just Y) w).setCell (p := ⟨Y, k, none⟩) (fun _ => rfl) z
  exact ⟨h.tx.set k z hc hR hW, h.mm.keep kk (fun e => h.ap c (.inl rfl) (.inl e)) (fun g hg e => h.ap g (.inr hg) (.inl e)), h.ap⟩
theorem DX.mem (h : DX w c u M Y rv wv d) (hm : RefAt w' c u M') (k : Keeps (own2m c u) w w') : DX w' c u M' Y rv wv d := ⟨h.tx.keep k (fun g e e2 => h.ap g e2 e), hm, h.ap⟩
theorem DX.kp (h : DX w' c u M' Y rv wv d') (k : Keeps (fun g => dxO Y rv wv g ∨ own2m c u g) w w') : DXP w w' c u M' Y rv wv d' := ⟨rv, wv, h, k, fun _ e => .inl e⟩
theorem kY {w w' : World} {Y : Nat} {rv wv : Value} {c : Nat} {u : Value} (k : Keeps (just Y) w w') : Keeps (fun g => dxO Y rv wv g ∨ own2m c u g) w w' := k.mono fun g e => .inl (.inl e)
theorem kM {w w' : World} {Y : Nat} {rv wv : Value} {c : Nat} {u : Value} (k : Keeps (own2m c u) w w') : Keeps (fun g => dxO Y rv wv g ∨ own2m c u g) w w' := k.mono fun g e => .inr e
theorem keepsY (w : World) (Y k : Nat) (z : Value) : Keeps (just Y) w (w.setCell ⟨Y, k, none⟩ z) := (Keeps.refl (just Y) w).setCell (p := ⟨Y, k, none⟩) (fun _ => rfl) z
/-- a step behind another -/
theorem DXP.then (k : Keeps (fun g => dxO Y rv wv g ∨ own2m c u g) w w') (h : DXP w' w2 c u M Y rv wv d) : DXP w w2 c u M Y rv wv d := by
  obtain ⟨rv', wv', h1, h2, h3⟩ := h
  have := k.size
  exact ⟨rv', wv', h1, k.trans h2, fun g e => (h3 g e).imp id (fun e => by omega)⟩
/-- the sets are emptied -/
theorem DX.clear (h : DX w c u M Y rv wv d) : DX ((w.setCell ⟨Y, 10, none⟩ nilV).setCell ⟨Y, 13, none⟩ nilV) c u M Y nilV nilV { d with R := [], W := [] } ∧ Keeps (just Y) w ((w.setCell ⟨Y, 10, none⟩ nilV).setCell ⟨Y, 13, none⟩ nilV) := by
  have kk : Keeps (just Y) w ((w.setCell ⟨Y, 10, none⟩ nilV).setCell ⟨Y, 13, none⟩ nilV) := (keepsY w Y 10 nilV).setCell (p := ⟨Y, 13, none⟩) (fun _ => rfl) nilV
  refine ⟨⟨⟨?_, World.ownsRow_nil _ _ _ _, World.ownsRow_nil _ _ _ _, fun g e => by simp [nilV, Value.ownBlock] at e, fun g e => by simp [nilV, Value.ownBlock] at e, fun x hx => by simp at hx⟩, h.mm.keep kk (fun e => h.ap c (.inl rfl) (.inl e)) (fun g hg e => h.ap g (.inr hg) (.inl e)), fun g e e2 => ?_⟩, kk⟩
  · rw [blk_set (blk_set h.tx.hd 10 nilV) 13 nilV]; rfl
  · rcases e2 with e2 | e2 | e2
    · exact h.ap g e (.inl e2)
    · simp [nilV, Value.ownBlock] at e2
    · simp [nilV, Value.ownBlock] at e2
end
end Go.Proofs.YtlcmnhfiggkmnaaGreat
namespace Go.Proofs.YtlcmnhfiggkmnaaGreat
open Go.RowKit
set_option maxHeartbeats 4000000 in
set_option maxRecDepth 100000 in
theorem dend_any {w : World} {c Y : Nat} {u rv wv : Value} {M : MemS} {d : DxS} (h : DX w c u M Y rv wv d)  : Calls Tryz.prog 102 #[.pointer (some ⟨Y, 0, none⟩)] w fun e w' => e = .returned (.int .i64 1) ∧ DX w' c u M Y rv wv (endD d) ∧ Keeps (just Y) w w' := by
  have f19 := h.tx.f 19
  have c19 := h.tx.c 19 (u := .int .i64 d.job) rfl
  have hl := h.tx.lt
  go_enter Tryz.func102, Tryz.ntmps102
  go_wp2
  go_ret
  exact ⟨rfl, (h.set 19 (.int .i64 0) (d' := { d with job := 0 }) rfl rfl rfl), ((Keeps.refl (just Y) w).setCell (p := ⟨Y, 19, none⟩) (fun _ => rfl) _)⟩
def askR2 (d : DxS) (job : Int) : DxS := if idleD d then askD d job else d
set_option maxHeartbeats 4000000 in
set_option maxRecDepth 100000 in
theorem dask_any {w : World} {c Y : Nat} {u rv wv : Value} {M : MemS} {d : DxS} (h : DX w c u M Y rv wv d) (job : Int) : Calls Tryz.prog 37 #[.pointer (some ⟨Y, 0, none⟩), .int .i64 job] w fun e w' => e = .returned (.bool (idleD d)) ∧ DX w' c u M Y rv wv (askR2 d job) ∧ Keeps (just Y) w w' := by
  have f19 := h.tx.f 19
  have f20 := h.tx.f 20
  have f21 := h.tx.f 21
  have f22 := h.tx.f 22
  have c15 := h.tx.c 15 (u := .bool d.alive) rfl
  have c19 := h.tx.c 19 (u := .int .i64 d.job) rfl
  have c20 := h.tx.c 20 (u := .int .i64 d.state) rfl
  have c21 := h.tx.c 21 (u := .int .i64 d.i) rfl
  have c22 := h.tx.c 22 (u := .int .i64 d.look) rfl
  have hl := h.tx.lt
  cases q : d.alive <;> cases q2 : (d.job == 0)
  all_goals rw [q] at c15
  · have hid : idleD d = false := by unfold idleD; rw [q, q2]; rfl
    rw [show askR2 d job = d by unfold askR2; rw [hid]; rfl, hid]
    clear hid
    go_enter Tryz.func37, Tryz.ntmps37
    go_wp2
    go_ret
    exact ⟨rfl, h, Keeps.refl _ _⟩
  · have hid : idleD d = false := by unfold idleD; rw [q, q2]; rfl
    rw [show askR2 d job = d by unfold askR2; rw [hid]; rfl, hid]
    clear hid
    go_enter Tryz.func37, Tryz.ntmps37
    go_wp2
    go_ret
    exact ⟨rfl, h, Keeps.refl _ _⟩
  · have hid : idleD d = false := by unfold idleD; rw [q, q2]; rfl
    rw [show askR2 d job = d by unfold askR2; rw [hid]; rfl, hid]
    clear hid
    have q3 : (d.job != 0) = true := by simpa using q2
    go_enter Tryz.func37, Tryz.ntmps37
    go_wp2
    go_ret
    exact ⟨rfl, h, Keeps.refl _ _⟩
  · have hid : idleD d = true := by unfold idleD; rw [q, q2]; rfl
    rw [show askR2 d job = askD d job by unfold askR2; rw [hid]; rfl, hid]
    clear hid
    have q3 : (d.job != 0) = false := by simpa using q2
    go_enter Tryz.func37, Tryz.ntmps37
    go_wp2
    go_ret
    exact ⟨rfl, ((((h.set 19 (.int .i64 job) (d' := { d with job := job }) rfl rfl rfl).set 20 (.int .i64 0) (d' := { d with job := job, state := 0 }) rfl rfl rfl).set 21 (.int .i64 0) (d' := { d with job := job, state := 0, i := 0 }) rfl rfl rfl).set 22 (.int .i64 0) (d' := { d with job := job, state := 0, i := 0, look := 0 }) rfl rfl rfl), (((((Keeps.refl (just Y) w).setCell (p := ⟨Y, 19, none⟩) (fun _ => rfl) _).setCell (p := ⟨Y, 20, none⟩) (fun _ => rfl) _).setCell (p := ⟨Y, 21, none⟩) (fun _ => rfl) _).setCell (p := ⟨Y, 22, none⟩) (fun _ => rfl) _)⟩
set_option maxHeartbeats 4000000 in
set_option maxRecDepth 100000 in
theorem dabort_any {w : World} {c Y : Nat} {u rv wv : Value} {M : MemS} {d : DxS} (h : DX w c u M Y rv wv d) (x : Int) : Calls Tryz.prog 46 #[.pointer (some ⟨Y, 0, none⟩), .int .i64 x] w fun e w' => e = .returned (.int .i64 (abortD d x).2) ∧ DX w' c u M Y rv wv (abortD d x).1 ∧ Keeps (just Y) w w' := by
  have f15 := h.tx.f 15
  have f19 := h.tx.f 19
  have f20 := h.tx.f 20
  have f21 := h.tx.f 21
  have f22 := h.tx.f 22
  have f30 := h.tx.f 30
  have f31 := h.tx.f 31
  have c15 := h.tx.c 15 (u := .bool d.alive) rfl
  have c19 := h.tx.c 19 (u := .int .i64 d.job) rfl
  have c20 := h.tx.c 20 (u := .int .i64 d.state) rfl
  have c21 := h.tx.c 21 (u := .int .i64 d.i) rfl
  have c22 := h.tx.c 22 (u := .int .i64 d.look) rfl
  have c30 := h.tx.c 30 (u := .int .i64 d.made) rfl
  have c31 := h.tx.c 31 (u := .int .i64 d.cause) rfl
  have hl := h.tx.lt
  cases q : d.locked <;> cases q2 : d.phased
  · rw [show abortD d x = ({ d with cause := x, made := 0, alive := false, job := 0, state := 0, i := 0, look := 0 }, 2) by unfold abortD; rw [q, q2]; rfl]
    go_enter Tryz.func46, Tryz.ntmps46
    go_upto_region 2 with fail
    have h1 := (((((((h.set 31 (.int .i64 x) (d' := { d with cause := x }) rfl rfl rfl).set 30 (.int .i64 0) (d' := { d with cause := x, made := 0 }) rfl rfl rfl).set 15 (.bool false) (d' := { d with cause := x, made := 0, alive := false }) rfl rfl rfl).set 19 (.int .i64 5) (d' := { d with cause := x, made := 0, alive := false, job := 5 }) rfl rfl rfl).set 20 (.int .i64 0) (d' := { d with cause := x, made := 0, alive := false, job := 5, state := 0 }) rfl rfl rfl).set 21 (.int .i64 0) (d' := { d with cause := x, made := 0, alive := false, job := 5, state := 0, i := 0 }) rfl rfl rfl).set 22 (.int .i64 0) (d' := { d with cause := x, made := 0, alive := false, job := 5, state := 0, i := 0, look := 0 }) rfl rfl rfl)
    have k1 : Keeps (just Y) w (((((((w.setCell ⟨Y, 31, none⟩ (.int .i64 x)).setCell ⟨Y, 30, none⟩ (.int .i64 0)).setCell ⟨Y, 15, none⟩ (.bool false)).setCell ⟨Y, 19, none⟩ (.int .i64 5)).setCell ⟨Y, 20, none⟩ (.int .i64 0)).setCell ⟨Y, 21, none⟩ (.int .i64 0)).setCell ⟨Y, 22, none⟩ (.int .i64 0)) := ((((((((Keeps.refl (just Y) w).setCell (p := ⟨Y, 31, none⟩) (fun _ => rfl) _).setCell (p := ⟨Y, 30, none⟩) (fun _ => rfl) _).setCell (p := ⟨Y, 15, none⟩) (fun _ => rfl) _).setCell (p := ⟨Y, 19, none⟩) (fun _ => rfl) _).setCell (p := ⟨Y, 20, none⟩) (fun _ => rfl) _).setCell (p := ⟨Y, 21, none⟩) (fun _ => rfl) _).setCell (p := ⟨Y, 22, none⟩) (fun _ => rfl) _)
    generalize (((((((w.setCell ⟨Y, 31, none⟩ (.int .i64 x)).setCell ⟨Y, 30, none⟩ (.int .i64 0)).setCell ⟨Y, 15, none⟩ (.bool false)).setCell ⟨Y, 19, none⟩ (.int .i64 5)).setCell ⟨Y, 20, none⟩ (.int .i64 0)).setCell ⟨Y, 21, none⟩ (.int .i64 0)).setCell ⟨Y, 22, none⟩ (.int .i64 0)) = w1 at *
    clear f15 f19 f20 f21 f22 f30 f31 c15 c19 c20 c21 c22 c30 c31 hl
    have c33 := h1.tx.c 33 (u := .slice none 0 0) rfl
    have c18 := h1.tx.c 18 (u := .bool d.locked) rfl
    have c17 := h1.tx.c 17 (u := .bool d.phased) rfl
    have c19 := h1.tx.c 19 (u := .int .i64 5) rfl
    have f19 := h1.tx.f 19
    have hl := h1.tx.lt
    rw [q] at c18; rw [q2] at c17
    go_wp2_with fail
    go_ret
    exact ⟨rfl, h1.set 19 (.int .i64 0) (d' := { d with cause := x, made := 0, alive := false, job := 0, state := 0, i := 0, look := 0 }) rfl rfl rfl, k1.trans (keepsY w1 Y 19 (.int .i64 0))⟩
  · rw [show abortD d x = ({ d with cause := x, made := 0, alive := false, job := 5, state := 0, i := 0, look := 0 }, 0) by unfold abortD; rw [q, q2]; rfl]
    go_enter Tryz.func46, Tryz.ntmps46
    go_upto_region 2 with fail
    have h1 := (((((((h.set 31 (.int .i64 x) (d' := { d with cause := x }) rfl rfl rfl).set 30 (.int .i64 0) (d' := { d with cause := x, made := 0 }) rfl rfl rfl).set 15 (.bool false) (d' := { d with cause := x, made := 0, alive := false }) rfl rfl rfl).set 19 (.int .i64 5) (d' := { d with cause := x, made := 0, alive := false, job := 5 }) rfl rfl rfl).set 20 (.int .i64 0) (d' := { d with cause := x, made := 0, alive := false, job := 5, state := 0 }) rfl rfl rfl).set 21 (.int .i64 0) (d' := { d with cause := x, made := 0, alive := false, job := 5, state := 0, i := 0 }) rfl rfl rfl).set 22 (.int .i64 0) (d' := { d with cause := x, made := 0, alive := false, job := 5, state := 0, i := 0, look := 0 }) rfl rfl rfl)
    have k1 : Keeps (just Y) w (((((((w.setCell ⟨Y, 31, none⟩ (.int .i64 x)).setCell ⟨Y, 30, none⟩ (.int .i64 0)).setCell ⟨Y, 15, none⟩ (.bool false)).setCell ⟨Y, 19, none⟩ (.int .i64 5)).setCell ⟨Y, 20, none⟩ (.int .i64 0)).setCell ⟨Y, 21, none⟩ (.int .i64 0)).setCell ⟨Y, 22, none⟩ (.int .i64 0)) := ((((((((Keeps.refl (just Y) w).setCell (p := ⟨Y, 31, none⟩) (fun _ => rfl) _).setCell (p := ⟨Y, 30, none⟩) (fun _ => rfl) _).setCell (p := ⟨Y, 15, none⟩) (fun _ => rfl) _).setCell (p := ⟨Y, 19, none⟩) (fun _ => rfl) _).setCell (p := ⟨Y, 20, none⟩) (fun _ => rfl) _).setCell (p := ⟨Y, 21, none⟩) (fun _ => rfl) _).setCell (p := ⟨Y, 22, none⟩) (fun _ => rfl) _)
    generalize (((((((w.setCell ⟨Y, 31, none⟩ (.int .i64 x)).setCell ⟨Y, 30, none⟩ (.int .i64 0)).setCell ⟨Y, 15, none⟩ (.bool false)).setCell ⟨Y, 19, none⟩ (.int .i64 5)).setCell ⟨Y, 20, none⟩ (.int .i64 0)).setCell ⟨Y, 21, none⟩ (.int .i64 0)).setCell ⟨Y, 22, none⟩ (.int .i64 0)) = w1 at *
    clear f15 f19 f20 f21 f22 f30 f31 c15 c19 c20 c21 c22 c30 c31 hl
    have c33 := h1.tx.c 33 (u := .slice none 0 0) rfl
    have c18 := h1.tx.c 18 (u := .bool d.locked) rfl
    have c17 := h1.tx.c 17 (u := .bool d.phased) rfl
    have c19 := h1.tx.c 19 (u := .int .i64 5) rfl
    have f19 := h1.tx.f 19
    have hl := h1.tx.lt
    rw [q] at c18; rw [q2] at c17
    go_wp2_with fail
    go_ret
    exact ⟨rfl, h1, k1⟩
  · rw [show abortD d x = ({ d with cause := x, made := 0, alive := false, job := 5, state := 0, i := 0, look := 0 }, 0) by unfold abortD; rw [q, q2]; rfl]
    go_enter Tryz.func46, Tryz.ntmps46
    go_upto_region 2 with fail
    have h1 := (((((((h.set 31 (.int .i64 x) (d' := { d with cause := x }) rfl rfl rfl).set 30 (.int .i64 0) (d' := { d with cause := x, made := 0 }) rfl rfl rfl).set 15 (.bool false) (d' := { d with cause := x, made := 0, alive := false }) rfl rfl rfl).set 19 (.int .i64 5) (d' := { d with cause := x, made := 0, alive := false, job := 5 }) rfl rfl rfl).set 20 (.int .i64 0) (d' := { d with cause := x, made := 0, alive := false, job := 5, state := 0 }) rfl rfl rfl).set 21 (.int .i64 0) (d' := { d with cause := x, made := 0, alive := false, job := 5, state := 0, i := 0 }) rfl rfl rfl).set 22 (.int .i64 0) (d' := { d with cause := x, made := 0, alive := false, job := 5, state := 0, i := 0, look := 0 }) rfl rfl rfl)
    have k1 : Keeps (just Y) w (((((((w.setCell ⟨Y, 31, none⟩ (.int .i64 x)).setCell ⟨Y, 30, none⟩ (.int .i64 0)).setCell ⟨Y, 15, none⟩ (.bool false)).setCell ⟨Y, 19, none⟩ (.int .i64 5)).setCell ⟨Y, 20, none⟩ (.int .i64 0)).setCell ⟨Y, 21, none⟩ (.int .i64 0)).setCell ⟨Y, 22, none⟩ (.int .i64 0)) := ((((((((Keeps.refl (just Y) w).setCell (p := ⟨Y, 31, none⟩) (fun _ => rfl) _).setCell (p := ⟨Y, 30, none⟩) (fun _ => rfl) _).setCell (p := ⟨Y, 15, none⟩) (fun _ => rfl) _).setCell (p := ⟨Y, 19, none⟩) (fun _ => rfl) _).setCell (p := ⟨Y, 20, none⟩) (fun _ => rfl) _).setCell (p := ⟨Y, 21, none⟩) (fun _ => rfl) _).setCell (p := ⟨Y, 22, none⟩) (fun _ => rfl) _)
    generalize (((((((w.setCell ⟨Y, 31, none⟩ (.int .i64 x)).setCell ⟨Y, 30, none⟩ (.int .i64 0)).setCell ⟨Y, 15, none⟩ (.bool false)).setCell ⟨Y, 19, none⟩ (.int .i64 5)).setCell ⟨Y, 20, none⟩ (.int .i64 0)).setCell ⟨Y, 21, none⟩ (.int .i64 0)).setCell ⟨Y, 22, none⟩ (.int .i64 0)) = w1 at *
    clear f15 f19 f20 f21 f22 f30 f31 c15 c19 c20 c21 c22 c30 c31 hl
    have c33 := h1.tx.c 33 (u := .slice none 0 0) rfl
    have c18 := h1.tx.c 18 (u := .bool d.locked) rfl
    have c17 := h1.tx.c 17 (u := .bool d.phased) rfl
    have c19 := h1.tx.c 19 (u := .int .i64 5) rfl
    have f19 := h1.tx.f 19
    have hl := h1.tx.lt
    rw [q] at c18; rw [q2] at c17
    go_wp2_with fail
    go_ret
    exact ⟨rfl, h1, k1⟩
  · rw [show abortD d x = ({ d with cause := x, made := 0, alive := false, job := 5, state := 0, i := 0, look := 0 }, 0) by unfold abortD; rw [q, q2]; rfl]
    go_enter Tryz.func46, Tryz.ntmps46
    go_upto_region 2 with fail
    have h1 := (((((((h.set 31 (.int .i64 x) (d' := { d with cause := x }) rfl rfl rfl).set 30 (.int .i64 0) (d' := { d with cause := x, made := 0 }) rfl rfl rfl).set 15 (.bool false) (d' := { d with cause := x, made := 0, alive := false }) rfl rfl rfl).set 19 (.int .i64 5) (d' := { d with cause := x, made := 0, alive := false, job := 5 }) rfl rfl rfl).set 20 (.int .i64 0) (d' := { d with cause := x, made := 0, alive := false, job := 5, state := 0 }) rfl rfl rfl).set 21 (.int .i64 0) (d' := { d with cause := x, made := 0, alive := false, job := 5, state := 0, i := 0 }) rfl rfl rfl).set 22 (.int .i64 0) (d' := { d with cause := x, made := 0, alive := false, job := 5, state := 0, i := 0, look := 0 }) rfl rfl rfl)
    have k1 : Keeps (just Y) w (((((((w.setCell ⟨Y, 31, none⟩ (.int .i64 x)).setCell ⟨Y, 30, none⟩ (.int .i64 0)).setCell ⟨Y, 15, none⟩ (.bool false)).setCell ⟨Y, 19, none⟩ (.int .i64 5)).setCell ⟨Y, 20, none⟩ (.int .i64 0)).setCell ⟨Y, 21, none⟩ (.int .i64 0)).setCell ⟨Y, 22, none⟩ (.int .i64 0)) := ((((((((Keeps.refl (just Y) w).setCell (p := ⟨Y, 31, none⟩) (fun _ => rfl) _).setCell (p := ⟨Y, 30, none⟩) (fun _ => rfl) _).setCell (p := ⟨Y, 15, none⟩) (fun _ => rfl) _).setCell (p := ⟨Y, 19, none⟩) (fun _ => rfl) _).setCell (p := ⟨Y, 20, none⟩) (fun _ => rfl) _).setCell (p := ⟨Y, 21, none⟩) (fun _ => rfl) _).setCell (p := ⟨Y, 22, none⟩) (fun _ => rfl) _)
    generalize (((((((w.setCell ⟨Y, 31, none⟩ (.int .i64 x)).setCell ⟨Y, 30, none⟩ (.int .i64 0)).setCell ⟨Y, 15, none⟩ (.bool false)).setCell ⟨Y, 19, none⟩ (.int .i64 5)).setCell ⟨Y, 20, none⟩ (.int .i64 0)).setCell ⟨Y, 21, none⟩ (.int .i64 0)).setCell ⟨Y, 22, none⟩ (.int .i64 0)) = w1 at *
    clear f15 f19 f20 f21 f22 f30 f31 c15 c19 c20 c21 c22 c30 c31 hl
    have c33 := h1.tx.c 33 (u := .slice none 0 0) rfl
    have c18 := h1.tx.c 18 (u := .bool d.locked) rfl
    have c17 := h1.tx.c 17 (u := .bool d.phased) rfl
    have c19 := h1.tx.c 19 (u := .int .i64 5) rfl
    have f19 := h1.tx.f 19
    have hl := h1.tx.lt
    rw [q] at c18; rw [q2] at c17
    go_wp2_with fail
    go_ret
    exact ⟨rfl, h1, k1⟩
theorem rsz16 : sizeP ⟨3, 1, 3, 0, 4⟩ = 34 := by kernel_rfl
set_option maxHeartbeats 4000000 in
set_option maxRecDepth 100000 in
theorem din_any {w : World} {c Y : Nat} {u rv wv : Value} {M : MemS} {d : DxS} (h : DX w c u M Y rv wv d) (p : Int) : Calls Tryz.prog 45 #[.pointer (some ⟨Y, 0, none⟩), .int .i64 p] w fun e w' => e = .returned (.bool (inD p)) ∧ Keeps NoS w w' := by
  have c0 := h.tx.c 0 (u := .int .i64 3) rfl
  have c1 := h.tx.c 1 (u := .int .i64 1) rfl
  have c2 := h.tx.c 2 (u := .int .i64 3) rfl
  have c3 := h.tx.c 3 (u := .int .i64 0) rfl
  have c4 := h.tx.c 4 (u := .int .i64 4) rfl
  have hl := h.tx.lt
  unfold inD
  by_cases q : 0 ≤ p
  · rw [show decide (0 ≤ p) = true from decide_eq_true q, Bool.true_and]
    have q1 : decide (0 ≤ p) = true := decide_eq_true q
    go_enter Tryz.func45, Tryz.ntmps45
    go_wp2_with (go_at_call 27; refine (rsize_lit 3 1 3 0 4 34 rsz16 _).mono ?_; rintro e w1 ⟨rfl, hk⟩)
    go_ret
    exact ⟨rfl, hk⟩
  · rw [show decide (0 ≤ p) = false from decide_eq_false q, Bool.false_and]
    have q1 : decide (0 ≤ p) = false := decide_eq_false q
    go_enter Tryz.func45, Tryz.ntmps45
    go_wp2_with fail
    go_ret
    exact ⟨rfl, Keeps.refl _ _⟩
set_option maxHeartbeats 4000000 in
set_option maxRecDepth 100000 in
theorem dkey_any {w : World} {c Y : Nat} {u rv wv : Value} {M : MemS} {d : DxS} (h : DX w c u M Y rv wv d) (p : Int) : Calls Tryz.prog 49 #[.pointer (some ⟨Y, 0, none⟩), .int .i64 p] w fun e w' => e = .returned (.int .i64 p) ∧ w = w' := by
  have c5 := h.tx.c 5 (u := .bool true) rfl
  have hl := h.tx.lt
  go_enter Tryz.func49, Tryz.ntmps49
  go_wp2
  go_ret
  exact ⟨rfl, rfl⟩
set_option maxHeartbeats 4000000 in
set_option maxRecDepth 100000 in
theorem drows_any {w : World} {c Y : Nat} {u rv wv : Value} {M : MemS} {d : DxS} (h : DX w c u M Y rv wv d)  : Calls Tryz.prog 111 #[.pointer (some ⟨Y, 0, none⟩)] w fun e w' => e = .returned (.tuple #[]) ∧ w = w' := by
  have c5 := h.tx.c 5 (u := .bool true) rfl
  have hl := h.tx.lt
  go_enter Tryz.func111, Tryz.ntmps111
  go_wp2
  (first | go_end0 | ((try simp only [Exit.inBlock, Exit.then]); refine bodyPost_ret (results_none rfl _ _ _) rfl ?_))
  exact ⟨rfl, rfl⟩
theorem why_any (x : Int) (w : World) : Calls Tryz.prog 104 #[.int .i64 x] w fun e w' => e = .returned (.int .i64 (if x = 3 then 3 else 2)) ∧ w = w' := by
  by_cases q : x = 3
  · rw [if_pos q]
    have e1 : (x == 3) = true := by simpa using q
    clear q
    go_enter Tryz.func104, Tryz.ntmps104
    go_wp2
    go_ret
    exact ⟨rfl, rfl⟩
  · rw [if_neg q]
    have e1 : (x == 3) = false := by simpa using q
    clear q
    go_enter Tryz.func104, Tryz.ntmps104
    go_wp2
    go_ret
    exact ⟨rfl, rfl⟩
def sumD (d : DxS) : Int := wrap64 (d.stamp + 2)
set_option maxHeartbeats 4000000 in
set_option maxRecDepth 100000 in
theorem dseat_any {w : World} {c Y : Nat} {u rv wv : Value} {M : MemS} {d : DxS} (h : DX w c u M Y rv wv d)  : Calls Tryz.prog 112 #[.pointer (some ⟨Y, 0, none⟩)] w fun e w' => e = .returned (.int .i64 (seatD d).2) ∧ DX w' c u M Y rv wv (seatD d).1 ∧ Keeps (just Y) w w' := by
  have c8 := h.tx.c 8 (u := .int .i64 d.top) rfl
  have c20 := h.tx.c 20 (u := .int .i64 d.state) rfl
  have c29 := h.tx.c 29 (u := .int .i64 d.stamp) rfl
  have f20 := h.tx.f 20
  have hl := h.tx.lt
  by_cases q : d.top < wrap64 (d.stamp + 2)
  · rw [show seatD d = abortD d 5 by unfold seatD; rw [if_pos q]]
    have hq : decide (d.top < wrap64 (d.stamp + 2)) = true := decide_eq_true q
    go_enter Tryz.func112, Tryz.ntmps112
    go_upto_region 1 with fail
    go_quiet (fail)
    have hd := h.no ((Keeps.refl NoS w).drewN nq)
    have kd := (Keeps.refl (just Y) w).drewN nq
    go_wp2_with (go_at_call 46; refine (dabort_any hd 5).mono ?_; rintro e w2 ⟨rfl, h2, k2⟩)
    go_ret
    exact ⟨rfl, h2, kd.trans k2⟩
  · rw [show seatD d = ({ d with state := 1 }, 0) by unfold seatD; rw [if_neg q]]
    have hq : decide (d.top < wrap64 (d.stamp + 2)) = false := decide_eq_false q
    go_enter Tryz.func112, Tryz.ntmps112
    go_upto_region 1 with fail
    go_quiet (fail)
    have hd := h.no ((Keeps.refl NoS w).drewN nq)
    have kd := (Keeps.refl (just Y) w).drewN nq
    go_wp2_with fail
    go_ret
    exact ⟨rfl, hd.set 20 (.int .i64 1) (d' := { d with state := 1 }) rfl rfl rfl, kd.trans (keepsY _ Y 20 (.int .i64 1))⟩
end Go.Proofs.YtlcmnhfiggkmnaaGreat
namespace Go.Proofs.YtlcmnhfiggkmnaaGreat
open Go.RowKit
section
variable {w w3 : World} {c Y : Nat} {u rv wv v' : Value} {M : MemS} {d : DxS} {o : Obj} {k x : Int}
theorem DX.mlt (h : DX w c u M Y rv wv d) {g : Nat} (e : own2m c u g) : g < w.heap.size := by
  rcases e with e | e
  · rw [e]; exact blk_lt h.mm.hd
  · exact (h.mm.ow.lt g e).2
/-- one more is read -/
theorem DX.rput (h : DX w c u M Y rv wv d) (hown : w3.ownsRow 0 97 2 v' (d.R.length + 1) (flat d.R ++ [.int .i64 k, .int .i64 x])) (hgr : (w.alloc o).grownBy w3 rv.ownBlock)
    (hob : ∀ g, v'.ownBlock = some g → rv.ownBlock = some g ∨ g = (w.alloc o).heap.size) :
    DXP w (w3.setCell ⟨Y, 10, none⟩ v') c u M Y rv wv { d with R := d.R ++ [(k, x)] } ∧ w3.heap[Y]? = some (.cells (dxC d rv wv) 77 (0, 0)) := by
  have hob2 : ∀ g, v'.ownBlock = some g → rv.ownBlock = some g ∨ w.heap.size ≤ g := fun g e => (hob g e).imp id (fun e2 => by simp at e2; omega)
  have k1 : Keeps (fun g => rv.ownBlock = some g) w w3 := ((Keeps.refl _ _).alloc _).grown hgr (fun k hk _ => hk)
  have kS : Keeps (fun g => g = Y ∨ rv.ownBlock = some g) w (w3.setCell ⟨Y, 10, none⟩ v') := (k1.mono fun g e => .inr e).setCell (p := ⟨Y, 10, none⟩) (fun _ => .inl rfl) _
  have hY := k1.blk h.tx.hd (fun e => (h.tx.o1 Y e).1 rfl)
  have hYl := h.tx.lt
  have hne : ∀ g, v'.ownBlock = some g → g ≠ Y ∧ wv.ownBlock ≠ some g := fun g e => (hob2 g e).elim (h.tx.o1 g) (fun hl => ⟨by omega, fun e => by have := (h.tx.ws.lt g e).2; omega⟩)
  refine ⟨⟨v', wv, ⟨⟨by rw [blk_set hY 10 v']; rfl, ?_, kS.owns h.tx.ws (fun g e e2 => e2.elim (h.tx.o2 g e) (fun e2 => (h.tx.o1 g e2).2 e)), hne, h.tx.o2, h.tx.nn⟩, h.mm.keep kS ?_ ?_, ?_⟩, kS.mono (fun g e => e.elim (fun e => .inl (.inl e)) (fun e => .inl (.inr (.inl e)))), ?_⟩, hY⟩
  · have : w3.ownsRow 0 97 2 v' (d.R ++ [(k, x)]).length (flat (d.R ++ [(k, x)])) := by rw [flat_snoc, List.length_append]; exact hown
    exact owns_setCell this (fun e => (hne Y e).1 rfl) _
  · rintro (e | e)
    · exact h.ap c (.inl rfl) (.inl e)
    · exact h.ap c (.inl rfl) (.inr (.inl e))
  · rintro g hg (e | e)
    · exact h.ap g (.inr hg) (.inl e)
    · exact h.ap g (.inr hg) (.inr (.inl e))
  · intro g e e2
    rcases e2 with e2 | e2 | e2
    · exact h.ap g e (.inl e2)
    · rcases hob2 g e2 with e3 | e3
      · exact h.ap g e (.inr (.inl e3))
      · have := h.mlt e; omega
    · exact h.ap g e (.inr (.inr e2))
  · intro g e
    rcases e with e | e | e
    · exact .inl (.inl e)
    · exact (hob2 g e).imp (fun e => .inr (.inl e)) id
    · exact .inl (.inr (.inr e))
/-- one more is written: nothing yet -/
theorem DX.wput (h : DX w c u M Y rv wv d) (hk : 0 ≤ k) (hown : w3.ownsRow 0 97 2 v' (d.W.length + 1) (flat d.W ++ [.int .i64 k, .int .i64 0])) (hgr : (w.alloc o).grownBy w3 wv.ownBlock)
    (hob : ∀ g, v'.ownBlock = some g → wv.ownBlock = some g ∨ g = (w.alloc o).heap.size) :
    DX (w3.setCell ⟨Y, 13, none⟩ v') c u M Y rv v' { d with W := d.W ++ [(k, 0)] } ∧ Keeps (fun g => g = Y ∨ wv.ownBlock = some g) w (w3.setCell ⟨Y, 13, none⟩ v') ∧ (∀ g, v'.ownBlock = some g → wv.ownBlock = some g ∨ w.heap.size ≤ g) ∧ w3.heap[Y]? = some (.cells (dxC d rv wv) 77 (0, 0)) ∧ v'.ownBlock ≠ some Y := by
  have hob2 : ∀ g, v'.ownBlock = some g → wv.ownBlock = some g ∨ w.heap.size ≤ g := fun g e => (hob g e).imp id (fun e2 => by simp at e2; omega)
  have k1 : Keeps (fun g => wv.ownBlock = some g) w w3 := ((Keeps.refl _ _).alloc _).grown hgr (fun k hk _ => hk)
  have kS : Keeps (fun g => g = Y ∨ wv.ownBlock = some g) w (w3.setCell ⟨Y, 13, none⟩ v') := (k1.mono fun g e => .inr e).setCell (p := ⟨Y, 13, none⟩) (fun _ => .inl rfl) _
  have hY := k1.blk h.tx.hd (fun e => h.tx.o2 Y e rfl)
  have hYl := h.tx.lt
  have hne : ∀ g, v'.ownBlock = some g → g ≠ Y := fun g e => (hob2 g e).elim (h.tx.o2 g) (fun hl => by omega)
  refine ⟨⟨⟨by rw [blk_set hY 13 v']; rfl, kS.owns h.tx.rs (fun g e e2 => e2.elim (h.tx.o1 g e).1 (fun e2 => (h.tx.o1 g e).2 e2)), ?_, fun g e => ⟨(h.tx.o1 g e).1, fun e2 => ?_⟩, hne, ?_⟩, h.mm.keep kS ?_ ?_, ?_⟩, kS, hob2, hY, fun e => hne Y e rfl⟩
  · have : w3.ownsRow 0 97 2 v' (d.W ++ [(k, 0)]).length (flat (d.W ++ [(k, 0)])) := by rw [flat_snoc, List.length_append]; exact hown
    exact owns_setCell this (fun e => hne Y e rfl) _
  · rcases hob2 g e2 with e3 | e3
    · exact (h.tx.o1 g e).2 e3
    · have := (h.tx.rs.lt g e).2; omega
  · intro y hy
    rcases List.mem_append.1 hy with e | e
    · exact h.tx.nn y e
    · simp at e; rw [e]; exact hk
  · rintro (e | e)
    · exact h.ap c (.inl rfl) (.inl e)
    · exact h.ap c (.inl rfl) (.inr (.inr e))
  · rintro g hg (e | e)
    · exact h.ap g (.inr hg) (.inl e)
    · exact h.ap g (.inr hg) (.inr (.inr e))
  · intro g e e2
    rcases e2 with e2 | e2 | e2
    · exact h.ap g e (.inl e2)
    · exact h.ap g e (.inr (.inl e2))
    · rcases hob2 g e2 with e3 | e3
      · exact h.ap g e (.inr (.inr e3))
      · have := h.mlt e; omega
/-- a word is written anew -/
theorem DX.wstored {g n cp : Nat} (h : DX w c u M Y rv (.slice (some ⟨g, 0, none⟩) n cp) d) (i : Nat) (hi : i < d.W.length) (hk : (d.W.getD i (0, 0)).1 = k) :
    DX (w.setCell ⟨g, i * 2 + 1, none⟩ (.int .i64 x)) c u M Y rv (.slice (some ⟨g, 0, none⟩) n cp) { d with W := d.W.set i (k, x) } := by
  have hn : n = d.W.length := by
    obtain ⟨p, c', hv⟩ := h.tx.wsl
    simp only [Value.slice.injEq] at hv
    exact hv.2.1
  subst hn
  have hgY : g ≠ Y := h.tx.o2 g rfl
  have kk : Keeps (fun q => q = g) w (w.setCell ⟨g, i * 2 + 1, none⟩ (.int .i64 x)) := (Keeps.refl (fun q => q = g) w).setCell (p := ⟨g, i * 2 + 1, none⟩) (fun _ => rfl) _
  refine ⟨⟨?_, kk.owns h.tx.rs (fun q e e2 => (h.tx.o1 q e).2 (by rw [e2]; rfl)), ?_, h.tx.o1, h.tx.o2, ?_⟩, h.mm.keep kk (fun e => h.ap c (.inl rfl) (.inr (.inr (by rw [e]; rfl)))) (fun q hq e => h.ap q (.inr hq) (.inr (.inr (by rw [e]; rfl)))), h.ap⟩
  · rw [Below.heap_setCell _ _ _ _ (fun e => hgY e.symm)]; exact h.tx.hd
  · have := (h.tx.ws.stored (i * 2 + 1) (.int .i64 x)).1
    show World.ownsRow _ _ _ _ _ (d.W.set i (k, x)).length (flat (d.W.set i (k, x)))
    rw [flat_set d.W i k x hi hk, List.length_set]
    exact this
  · intro y hy
    rcases List.mem_or_eq_of_mem_set hy with h1 | rfl
    · exact h.tx.nn y h1
    · rw [getD_at _ _ _ hi] at hk
      have := h.tx.nn _ (List.getElem_mem hi)
      rw [hk] at this; exact this
end
theorem droom_any {w : World} {c Y : Nat} {u rv wv : Value} {M : MemS} {d : DxS} (h : DX w c u M Y rv wv d) (hl : d.R.length ≤ 32) (key : Int) :
    Calls Tryz.prog 48 #[.pointer (some ⟨Y, 9, none⟩), .int .i64 key] w fun e w' => e = .returned (.bool (roomFor 32 d.R key)) ∧ Keeps NoS w w' := by
  have c0 := h.tx.c 9 (u := .int .i64 32) rfl
  have c1 := h.tx.c 10 (u := rv) rfl
  have hsl := h.tx.rW hl
  obtain ⟨p, cp, rfl⟩ := h.tx.rsl
  have Q : ∀ n, Calls Tryz.prog 84 #[.slice p d.R.length cp, .int .i64 key] (w.drewN n) fun e w' => e = .returned (.int .i64 (findL d.R key)) ∧ w' = w.drewN n := fun n => (kfind_any _ d.R key (w.drewN n) hsl).mono fun _ _ ⟨he, hw⟩ => ⟨he, hw.symm⟩
  have hfh := findL_has d.R key
  have Q := Lib.hid Q
  by_cases q : hasKey d.R key = true
  · have hr : roomFor 32 d.R key = true := by simp [roomFor, q]
    rw [hr]
    have hd : decide (0 ≤ findL d.R key) = true := by simpa using hfh.1.2 q
    clear hr h hfh hsl q
    generalize findL d.R key = F at *
    go_enter Tryz.func48, Tryz.ntmps48
    go_wp2
    go_quiet ((go_at_call 84; exact Calls.quiet_of_same (Q.out _)))
    go_wp2
    go_ret
    exact ⟨rfl, (Keeps.refl _ _).drewN _⟩
  · have q : hasKey d.R key = false := by simpa using q
    have hr : roomFor 32 d.R key = decide ((d.R.length : Int) < 32) := by simp [roomFor, q]
    rw [hr]
    have hd : decide (0 ≤ findL d.R key) = false := by have := hfh.2.2 q; simp; omega
    clear hr h hfh hsl q
    generalize findL d.R key = F at *
    go_enter Tryz.func48, Tryz.ntmps48
    go_wp2
    go_quiet ((go_at_call 84; exact Calls.quiet_of_same (Q.out _)))
    go_wp2
    go_ret
    exact ⟨rfl, (Keeps.refl _ _).drewN _⟩
set_option maxHeartbeats 1000000 in
set_option maxRecDepth 100000 in
theorem drput_any {w : World} {c Y : Nat} {u rv wv : Value} {M : MemS} {d : DxS} (h : DX w c u M Y rv wv d) (hl : d.R.length ≤ 32) (k x : Int) :
    Calls Tryz.prog 108 #[.pointer (some ⟨Y, 9, none⟩), .int .i64 k, .int .i64 x] w fun e w' => (∃ b, e = .returned (.bool b)) ∧ DXP w w' c u M Y rv wv { d with R := putL 32 d.R k x } := by
  cases hr : roomFor 32 d.R k with
  | false =>
    have hk2 : hasKey d.R k = false := by cases q : hasKey d.R k with | false => rfl | true => simp [roomFor, q] at hr
    have hl2 : ¬ (d.R.length : Int) < 32 := by intro q; simp [roomFor] at hr; omega
    rw [show putL 32 d.R k x = d.R by unfold putL; rw [hk2, if_neg (by decide), if_neg hl2]]
    have HR := Lib.hid hr
    clear hr hk2 hl2
    go_enter Tryz.func108, Tryz.ntmps108
    go_wp2_with (go_at_call 48; refine (droom_any h hl k).mono ?_; rw [HR.out]; rintro e w' ⟨rfl, hk⟩)
    go_ret
    exact ⟨⟨_, rfl⟩, (h.no hk).kp hk.no⟩
  | true =>
    have HR := Lib.hid hr
    cases q : hasKey d.R k with
    | true =>
      rw [show putL 32 d.R k x = d.R by unfold putL; rw [q, if_pos rfl]]
      have hfh := (findL_has d.R k).1.2 q
      clear hr q
      go_enter Tryz.func108, Tryz.ntmps108
      go_wp2_with fail
      refine (droom_any h hl k).mono ?_
      rw [HR.out]; rintro e w1 ⟨rfl, hk⟩
      have h1 := h.no hk
      have hsl := h1.tx.rW hl
      have c1 := h1.tx.c 10 (u := rv) rfl
      obtain ⟨p, cp, rfl⟩ := h1.tx.rsl
      go_wp2_with (go_at_call 84; refine (kfind_any _ d.R k _ hsl).mono ?_; rintro e w2 ⟨rfl, rfl⟩)
      go_ret
      exact ⟨⟨_, rfl⟩, h1.kp hk.no⟩
    | false =>
      have hl2 : (d.R.length : Int) < 32 := by simp [roomFor, q] at hr; omega
      rw [show putL 32 d.R k x = d.R ++ [(k, x)] by unfold putL; rw [q, if_neg (by decide), if_pos hl2]]
      have hfh := (findL_has d.R k).2.2 q
      clear hr q hl2
      obtain ⟨i0, hi, hz0, hz1, hz2⟩ := info_parts infoWord
      go_enter Tryz.func108, Tryz.ntmps108
      go_wp2_with fail
      refine (droom_any h hl k).mono ?_
      rw [HR.out]; rintro e w2 ⟨rfl, hk⟩
      have h2 := h.no hk
      have hsl := h2.tx.rW hl
      have c1 := h2.tx.c 10 (u := rv) rfl
      have d2 : ∀ z ∈ [Value.int .i64 k, .int .i64 x], z.oneCell' = true := by simp [Value.oneCell']
      have b3 : d.R.length + 1 ≤ maxLen := by unfold maxLen; omega
      obtain ⟨p0, c0, hv0⟩ := h2.tx.rsl
      have HV := Lib.hid hv0
      clear hv0
      go_wp2_with (first
        | (go_at_call 84; refine (kfind_any _ d.R k _ hsl).mono ?_; rintro e w2 ⟨rfl, rfl⟩)
        | (at_builtin; refine wpList_append_fp _ rfl _ _ 65 rfl 97 i0 (.agg #[.int .i64 0, .int .i64 0]) 2 16 Tryz.underlying65 hi hz0 hz1 hz2 rfl (by decide) rv d.R.length (flat d.R) rfl (h2.tx.rs.alloc _) ⟨w2.heap.size, 0, none⟩ 1 1 [.int .i64 k, .int .i64 x] rfl rfl (cells_new _ _ _) d2 b3 (by omega) ?_; intro v' w3 hown hgr hob; have hput := h2.rput hown hgr hob; have e1 : w3.cell? ⟨Y, 10, none⟩ = some rv := (by rw [blk_cell hput.2]; rfl); have e2 := blk_free hput.2 10; have e3 := blk_lt hput.2; rw [HV.out] at e1; obtain ⟨p', c', rfl⟩ := owns_slice hown; clear hown hgr hob c1))
      go_ret
      exact ⟨⟨_, rfl⟩, hput.1.then hk.no⟩
end Go.Proofs.YtlcmnhfiggkmnaaGreat
namespace Go.Proofs.YtlcmnhfiggkmnaaGreat
open Go.RowKit
section
variable {w : World} {c Y : Nat} {u rv wv : Value} {M : MemS} {d : DxS}
set_option maxHeartbeats 400000 in
theorem dfilter_any (h : DX w c u M Y rv wv d) (hl : d.W.length ≤ 32) : Calls Tryz.prog 83 #[.pointer (some ⟨Y, 11, none⟩)] w fun e w' => e = .returned (.int .u64 (filterOf d.W : Int)) ∧ w = w' := by
  have c2 := h.tx.c 13 (u := wv) rfl
  have HNN := Lib.hid h.tx.nn
  rcases owns_words h.tx.ws with ⟨hv, hw0⟩ | ⟨g, cap, hv, hgs, _, hcell⟩
  · rw [hw0]
    rw [hv] at c2
    clear h HNN
    go_enter Tryz.func83, Tryz.ntmps83
    go_wp2
    go_loop [3, 4] (fun f i => f = .int .u64 0 ∧ i = .int .i64 0) (fun _ _ => 0)
    case atStart => exact ⟨rfl, rfl⟩
    case round =>
      obtain ⟨rfl, rfl⟩ := hrel
      go_wp2
      go_ret
      exact ⟨rfl, rfl⟩
  · rw [hv] at c2
    have Hc := Lib.hid hcell
    clear hcell h
    generalize d.W = l at *
    go_enter Tryz.func83, Tryz.ntmps83
    go_wp2
    go_loop [3, 4] (fun f i => ∃ k : Nat, k ≤ l.length ∧ i = .int .i64 k ∧ f = .int .u64 (filterOf (l.take k) : Int)) (fun _ i => l.length - (intOf i).toNat)
    case atStart => exact ⟨0, by omega, rfl, rfl⟩
    case round =>
      obtain ⟨k, hk, rfl, rfl⟩ := hrel
      by_cases hlt : k < l.length
      · obtain ⟨d0, _⟩ := Hc.out k hlt
        have hq : 0 ≤ (l.getD k (0, 0)).1 := HNN.out _ (by rw [getD_at _ _ _ hlt]; exact List.getElem_mem _)
        have HF := Lib.hid (filterOf_take l k hlt)
        generalize (l.getD k (0, 0)).1 = q at *
        go_wp2
        go_round
        case rel => exact ⟨k + 1, by omega, by go_num, congrArg (Value.int .u64) (by rw [fpow_bit]; exact HF.out)⟩
        case measure => simp [intOf]; omega
      · have hf : l.take k = l := List.take_of_length_le (by omega)
        have Hf := Lib.hid hf
        clear hf
        go_wp2
        go_ret
        rw [Hf.out]
        exact ⟨rfl, rfl⟩
set_option maxHeartbeats 400000 in
theorem dget_any (h : DX w c u M Y rv wv d) (hl : d.W.length ≤ 32) (k : Int) :
    Calls Tryz.prog 47 #[.pointer (some ⟨Y, 11, none⟩), .int .i64 k] w fun e w' => e = .returned (.tuple #[.int .i64 (getW d.W k), .bool (hasW d.W k)]) ∧ DX w' c u M Y rv wv { d with asked := askedL d.W k d.asked } ∧ Keeps (just Y) w w' := by
  by_cases h0 : 0 ≤ k
  · have ht := ftest_in d.W k
    cases hf : inFilter d.W k with
    | false =>
      have hno : hasKey d.W k = false := by
        cases q : hasKey d.W k with
        | false => rfl
        | true => rw [inFilter_has d.W k q] at hf; cases hf
      have e1 : getW d.W k = 0 := by simp [getW, getL, hno]
      have e2 : hasW d.W k = false := by simp [hasW, hno]
      have e3 : askedL d.W k d.asked = d.asked := by simp [askedL, hf]
      rw [e1, e2, e3]
      rw [hf] at ht
      replace ht : (((filterOf d.W : Int) / 2 ^ (k % 64).toNat).tmod 2 == 0) = true := ht
      clear hf hno e1 e2 e3
      go_enter Tryz.func47, Tryz.ntmps47
      go_wp2_with (go_at_call 83; refine (dfilter_any h hl).mono ?_; rintro e w1 ⟨rfl, rfl⟩)
      go_ret2
      exact ⟨rfl, h, Keeps.refl _ _⟩
    | true =>
      have e3 : askedL d.W k d.asked = wrap64 (d.asked + 1) := by simp [askedL, hf, h0]
      have e1 : getW d.W k = getL d.W k := by simp [getW, h0]
      have e2 : hasW d.W k = hasKey d.W k := by simp [hasW, h0]
      rw [e1, e2, e3]
      rw [hf] at ht
      replace ht : (((filterOf d.W : Int) / 2 ^ (k % 64).toNat).tmod 2 == 0) = false := ht
      clear hf e1 e2 e3
      have c0 := h.tx.c 12 (u := .int .i64 d.asked) rfl
      have c2 := h.tx.c 13 (u := wv) rfl
      have f1 := h.tx.f 12
      have hlY := h.tx.lt
      have hask := h.set 12 (.int .i64 (wrap64 (d.asked + 1))) (d' := { d with asked := wrap64 (d.asked + 1) }) rfl rfl rfl
      have hsl := hask.tx.wW hl
      have HA := Lib.hid hask
      obtain ⟨p, cp, hv⟩ := h.tx.wsl
      cases hk : hasKey d.W k with
      | false =>
        have e4 : getL d.W k = 0 := by simp [getL, hk]
        rw [e4]
        have HF := Lib.hid (findL_eq_neg d.W k hk)
        have HH := Lib.hid h
        clear e4 hk hask hv h
        go_enter Tryz.func47, Tryz.ntmps47
        go_wp2_with (first
          | (go_at_call 83; refine (dfilter_any HH.out hl).mono ?_; rintro e w1 ⟨rfl, rfl⟩)
          | (go_at_call 84; refine (kfind_any wv d.W k _ hsl).mono ?_; rw [HF.out]; rintro e w2 ⟨rfl, rfl⟩))
        go_ret2
        exact ⟨rfl, HA.out, keepsY _ _ _ _⟩
      | true =>
        obtain ⟨i, hfi, hi, hki⟩ := findL_at d.W k hk
        have e4 : getL d.W k = (d.W.getD i (0, 0)).2 := by simp [getL, hk, hfi]
        rw [e4]
        rcases owns_words h.tx.ws with ⟨hv2, hw0⟩ | ⟨g, cap, hv2, hgs, _, hcell⟩
        · rw [hw0] at hi; simp at hi
        have hga : g ≠ Y := h.tx.o2 g (by rw [hv2]; rfl)
        have d1 := (hcell i hi).2
        have HF := Lib.hid hfi
        have HH := Lib.hid h
        have HV := Lib.hid hv2
        clear e4 hk hask hv hfi hki hcell h hv2
        rw [HV.out] at c2 hsl
        obtain ⟨dW, hdW⟩ : ∃ z, d.W.length = z := ⟨_, rfl⟩
        rw [hdW] at hi c2 hl
        generalize (d.W.getD i (0, 0)).2 = y at *
        go_enter Tryz.func47, Tryz.ntmps47
        rw [hdW] at hsl
        go_wp2_with (first
          | (go_at_call 83; refine (dfilter_any HH.out (by rw [hdW]; exact hl)).mono ?_; rintro e w1 ⟨rfl, rfl⟩)
          | (go_at_call 84; refine (kfind_any _ d.W k _ hsl).mono ?_; rw [HF.out]; rintro e w2 ⟨rfl, rfl⟩))
        go_ret2
        exact ⟨rfl, HA.out, keepsY _ _ _ _⟩
  · have e1 : getW d.W k = 0 := by simp [getW, h0]
    have e2 : hasW d.W k = false := by simp [hasW, h0]
    have e3 : askedL d.W k d.asked = d.asked := by simp [askedL, h0]
    rw [e1, e2, e3]
    clear e1 e2 e3
    have h0 : k < 0 := by omega
    go_enter Tryz.func47, Tryz.ntmps47
    go_wp2
    go_ret2
    exact ⟨rfl, h, Keeps.refl _ _⟩
theorem kW {w w' : World} (k : Keeps (fun g => g = Y ∨ wv.ownBlock = some g) w w') : Keeps (fun g => dxO Y rv wv g ∨ own2m c u g) w w' := k.mono fun g e => e.elim (fun e => .inl (.inl e)) (fun e => .inl (.inr (.inr e)))
set_option maxHeartbeats 1000000 in
set_option maxRecDepth 100000 in
theorem dwput_has (h : DX w c u M Y rv wv d) (hl : d.W.length ≤ 32) (k x : Int) (h0 : 0 ≤ k) (hk : hasKey d.W k = true) :
    Calls Tryz.prog 51 #[.pointer (some ⟨Y, 11, none⟩), .int .i64 k, .int .i64 x] w fun e w' => e = .returned (.bool true) ∧ DXP w w' c u M Y rv wv { d with W := d.W.set (findL d.W k).toNat (k, x) } := by
  obtain ⟨i, hf, hi, hki⟩ := findL_at d.W k hk
  rw [hf]
  have HF := Lib.hid hf
  clear hk hf
  have c0 := h.tx.c 11 (u := .int .i64 32) rfl
  have c2 := h.tx.c 13 (u := wv) rfl
  have hsl := h.tx.wW hl
  rcases owns_words h.tx.ws with ⟨_, hw0⟩ | ⟨g, cap, rfl, hgs, hfr, hcell⟩
  · rw [hw0] at hi; simp at hi
  have e1 := (hcell i hi).2
  have e2 := hfr (i * 2 + 1)
  have HK := Lib.hid hki
  have HH := Lib.hid h
  have hd1 : decide (k < 0) = false := decide_eq_false (by omega)
  have hd2 : decide ((i : Int) < 0) = false := decide_eq_false (by omega)
  clear hki hfr hcell h
  go_enter Tryz.func51, Tryz.ntmps51
  go_wp2_with (go_at_call 84; refine (kfind_any _ d.W k _ hsl).mono ?_; rw [HF.out]; rintro e w2 ⟨rfl, rfl⟩)
  go_quiet (fail)
  go_wp2
  go_ret
  refine ⟨rfl, ?_⟩
  have hn := (HH.out.no ((Keeps.refl NoS w).drewN nq)).wstored (k := k) (x := x) i hi HK.out
  rw [Int.toNat_natCast]
  refine hn.kp ?_
  exact ((Keeps.refl _ w).drewN _).setCell (p := ⟨g, i * 2 + 1, none⟩) (fun _ => .inl (.inr (.inr rfl))) _
theorem dwput_no (h : DX w c u M Y rv wv d) (hl : d.W.length ≤ 32) (k x : Int) (h0 : 0 ≤ k) (hk : hasKey d.W k = false) (h2 : (32 : Int) ≤ (d.W.length : Int)) :
    Calls Tryz.prog 51 #[.pointer (some ⟨Y, 11, none⟩), .int .i64 k, .int .i64 x] w fun e w' => e = .returned (.bool false) ∧ Keeps NoS w w' := by
  have HF := Lib.hid (findL_eq_neg d.W k hk)
  clear hk
  have c0 := h.tx.c 11 (u := .int .i64 32) rfl
  have c2 := h.tx.c 13 (u := wv) rfl
  have hsl := h.tx.wW hl
  obtain ⟨p, cp, rfl⟩ := h.tx.wsl
  have hd1 : decide (k < 0) = false := decide_eq_false (by omega)
  have hd : decide ((32 : Int) ≤ (d.W.length : Int)) = true := decide_eq_true h2
  clear h
  go_enter Tryz.func51, Tryz.ntmps51
  go_wp2_with (go_at_call 84; refine (kfind_any _ d.W k _ hsl).mono ?_; rw [HF.out]; rintro e w2 ⟨rfl, rfl⟩)
  go_quiet (fail)
  go_wp2
  go_ret
  exact ⟨rfl, (Keeps.refl _ _).drewN _⟩
theorem dwput_neg (h : DX w c u M Y rv wv d) (hl : d.W.length ≤ 32) (k x : Int) (h0 : k < 0) :
    Calls Tryz.prog 51 #[.pointer (some ⟨Y, 11, none⟩), .int .i64 k, .int .i64 x] w fun e w' => e = .returned (.bool false) ∧ Keeps NoS w w' := by
  have c0 := h.tx.c 11 (u := .int .i64 32) rfl
  have c2 := h.tx.c 13 (u := wv) rfl
  have hsl := h.tx.wW hl
  obtain ⟨p, cp, rfl⟩ := h.tx.wsl
  have hd : decide (k < 0) = true := by simpa using h0
  clear h
  go_enter Tryz.func51, Tryz.ntmps51
  go_wp2_with (go_at_call 84; refine (kfind_any _ d.W k _ hsl).mono ?_; rintro e w2 ⟨rfl, rfl⟩)
  go_quiet (fail)
  go_wp2
  go_ret
  exact ⟨rfl, (Keeps.refl _ _).drewN _⟩
set_option maxHeartbeats 1000000 in
set_option maxRecDepth 100000 in
theorem dwput_new (h : DX w c u M Y rv wv d) (hl : d.W.length ≤ 32) (k x : Int) (h0 : 0 ≤ k) (hk : hasKey d.W k = false) (h2 : (d.W.length : Int) < 32) :
    Calls Tryz.prog 51 #[.pointer (some ⟨Y, 11, none⟩), .int .i64 k, .int .i64 x] w fun e w' => e = .returned (.bool true) ∧ DXP w w' c u M Y rv wv { d with W := d.W ++ [(k, x)] } := by
  have HF := Lib.hid (findL_eq_neg d.W k hk)
  clear hk
  obtain ⟨i0, hi, hz0, hz1, hz2⟩ := info_parts infoWord
  have c0 := h.tx.c 11 (u := .int .i64 32) rfl
  have c2 := h.tx.c 13 (u := wv) rfl
  have hsl := h.tx.wW hl
  obtain ⟨p, cp, rfl⟩ := h.tx.wsl
  have hd1 : decide (k < 0) = false := decide_eq_false (by omega)
  have hd2 : decide ((32 : Int) ≤ (d.W.length : Int)) = false := decide_eq_false (by omega)
  have d2 : ∀ z ∈ [Value.int .i64 k, .int .i64 0], z.oneCell' = true := by simp [Value.oneCell']
  have D2 := Lib.hid d2
  have b3 : d.W.length + 1 ≤ maxLen := by unfold maxLen; omega
  clear d2
  go_enter Tryz.func51, Tryz.ntmps51
  go_wp2_with (go_at_call 84; refine (kfind_any _ d.W k _ hsl).mono ?_; rw [HF.out]; rintro e w2 ⟨rfl, rfl⟩)
  go_quiet (fail)
  have hsd := h.no ((Keeps.refl NoS _).drewN nq)
  have HSD := Lib.hid hsd
  clear hsd hd1 hd2 h hsl
  go_wp2_with (at_builtin; refine wpList_append_fp _ rfl _ _ 65 rfl 97 i0 (.agg #[.int .i64 0, .int .i64 0]) 2 16 Tryz.underlying65 hi hz0 hz1 hz2 rfl (by decide) (.slice p d.W.length cp) d.W.length (flat d.W) rfl (HSD.out.tx.ws.alloc _) ⟨_, 0, none⟩ 1 1 [.int .i64 k, .int .i64 0] rfl rfl (cells_new _ _ _) D2.out b3 (by omega) ?_; intro v' w3 hown hgr hob; have hput := HSD.out.wput h0 hown hgr hob; have e0 := hput.2.2.2.1; have e1 : w3.cell? ⟨Y, 13, none⟩ = some (.slice p d.W.length cp) := (by rw [blk_cell e0]; rfl); have e2 := blk_free e0 13; have e3 := blk_lt e0; obtain ⟨g, cg, rfl, q1, q2, q3⟩ := owns_cell2 hown rfl; have q4 := q2 (d.W.length * 2 + 1); have hne : g ≠ Y := fun e => hput.2.2.2.2 (by rw [e]; rfl); have HP := Lib.hid hput; clear hown hgr hob c2 hput e0 q2)
  go_ret
  have hst := HP.out.1.wstored (k := k) (x := x) d.W.length (by simp) (by rw [getD_at _ _ _ (by simp)]; simp)
  rw [set_last] at hst
  refine ⟨rfl, _, _, hst, ?_, fun q hq => ?_⟩
  · have k1 := (kW (rv := rv) (c := c) (u := u) (((Keeps.refl _ w).drewN nq).trans HP.out.2.1))
    refine k1.setCell (p := ⟨g, d.W.length * 2 + 1, none⟩) (fun hlt => ?_) _
    rcases HP.out.2.2.1 g rfl with q | q
    · exact .inl (.inr (.inr q))
    · have : g < w.heap.size := hlt
      have : w.heap.size ≤ g := q
      omega
  · rcases hq with e | e | e
    · exact .inl (.inl e)
    · exact .inl (.inr (.inl e))
    · exact (HP.out.2.2.1 q e).imp (fun e => .inr (.inr e)) id
theorem dwput_any (h : DX w c u M Y rv wv d) (hl : d.W.length ≤ 32) (k x : Int) :
    Calls Tryz.prog 51 #[.pointer (some ⟨Y, 11, none⟩), .int .i64 k, .int .i64 x] w fun e w' => e = .returned (.bool (putOk 32 d.W k)) ∧ DXP w w' c u M Y rv wv { d with W := putW 32 d.W k x } := by
  by_cases h0 : k < 0
  · rw [show putOk 32 d.W k = false by simp [putOk]; omega, show putW 32 d.W k x = d.W by simp [putW, h0]]
    exact (dwput_neg h hl k x h0).mono fun e w' ⟨he, hk⟩ => ⟨he, (h.no hk).kp hk.no⟩
  · have h0 : 0 ≤ k := by omega
    have hn : ¬ k < 0 := by omega
    cases q : hasKey d.W k with
    | true =>
      rw [show putOk 32 d.W k = true by simp [putOk, q, h0], show putW 32 d.W k x = d.W.set (findL d.W k).toNat (k, x) by simp [putW, hn, q]]
      exact dwput_has h hl k x h0 q
    | false =>
      by_cases h2 : (d.W.length : Int) < 32
      · rw [show putOk 32 d.W k = true by simp [putOk, h0]; omega, show putW 32 d.W k x = d.W ++ [(k, x)] by simp [putW, hn, q]; omega]
        exact dwput_new h hl k x h0 q h2
      · rw [show putOk 32 d.W k = false by simp [putOk, q]; omega, show putW 32 d.W k x = d.W by simp [putW, hn, q]; omega]
        exact (dwput_no h hl k x h0 q (by omega)).mono fun e w' ⟨he, hk⟩ => ⟨he, (h.no hk).kp hk.no⟩
end
end Go.Proofs.YtlcmnhfiggkmnaaGreat
