/- The walk of MemOwn. -/
import Derived.Test.YtldleacoajlinaaMemSame
namespace Go.Proofs.Ytldleacoajlinaa
open Go.RowKit
theorem Keeps.inI {w w' : World} {v : Value} {zs : List Int} (k : Keeps NoS w w') (h : InI w v zs) : InI w' v zs := by
  obtain ⟨p, cap, hv, hm, hc, hn⟩ := h
  refine ⟨p, cap, hv, hm, fun hne => ?_, hn⟩
  obtain ⟨b, off, hb, hcell⟩ := hc hne
  exact ⟨b, off, hb, fun j hj => k.cell (hcell j hj) (fun f => f)⟩
theorem new_someN (b off c n : Nat) (zs : List Int) (w : World) (hl : zs.length = n) (h0 : 0 < n) (h1 : n ≤ 4096) (hc : ∀ k, k < n → w.cell? ⟨b, off + k, none⟩ = some (.int .i64 (zs.getD k 0))) :
    Calls Try.prog 38 #[.slice (some ⟨b, off, none⟩) n c] w fun e w' => ∃ a v, e = .returned (.pointer (some ⟨a, 0, none⟩)) ∧ MemAt w' a v (MemS.new zs) ∧ w.heap.size ≤ a ∧ (∀ g, v.ownBlock = some g → w.heap.size ≤ g) ∧ Keeps NoS w w' := by
  subst hl
  exact new_some b off c zs w h0 h1 hc
/-- what a law made itself may be written -/
theorem MemInT.setNew {T : TypeId} {w wr : World} {a : Nat} {v : Value} {M : MemS} (h : MemInT T w wr a v M) {p : Addr} (hp : w.heap.size ≤ p.block) (ha : p.block ≠ a) (hv : v.ownBlock ≠ some p.block) (u : Value) : MemInT T w (wr.setCell p u) a v M := by
  have k : Keeps (just p.block) wr (wr.setCell p u) := (Keeps.refl (just p.block) wr).setCell (fun _ => rfl) u
  refine ⟨h.m.keep k (fun e => ha e.symm) (fun g hg e => hv (by rw [hg, e])), h.na, h.nv, h.kp.trans' k (fun i hi ht => ?_)⟩
  have : i = p.block := ht
  omega
set_option maxHeartbeats 400000 in
set_option maxRecDepth 100000 in
theorem memOwn_main (w : World) (v0 : Value) (zs : List Int) (hin : InI w v0 zs) (a1 x : Int) (h1 : 1 ≤ zs.length) (h40 : zs.length ≤ 40) :
    Calls Try.prog 13 #[v0, .int .i64 a1, .int .i64 x] w fun e w' => e = .returned (.bool true) ∧ Keeps NoS w w' := by
  obtain ⟨b, off, cap, rfl, hc⟩ := hin.at (by omega)
  obtain ⟨n1, n2⟩ := u64_tmod_bd a1 (zs.length : Int) (by omega)
  obtain ⟨k, hr⟩ : ∃ r : Nat, (IntKind.u64.wrap a1).tmod zs.length = (r : Int) := Int.eq_ofNat_of_zero_le n1
  rw [hr] at n1 n2
  obtain ⟨i0, hi, hz0, hz1, hz2⟩ := info_parts infoI64
  have hk : k < zs.length := by omega
  have hnews : ∀ j u, (intsV zs)[j]? = some u → w.cell? ((⟨b, off, none⟩ : Addr).add j) = some u := by
    intro j u hu
    have hj : j < zs.length := by rw [← intsV_len]; exact (List.getElem?_eq_some_iff.1 hu).1
    rw [intsV_get zs j hj] at hu
    rw [Go.WideShapes.add_plain, hc j hj]; exact hu
  have hlen : (intsV zs).length = zs.length * 1 := by rw [intsV_len]; omega
  have HL := Lib.hid hlen; have HN := Lib.hid hnews; have H1C := Lib.hid (oneCells_ints zs); have HI := Lib.hid hin
  have e0 := hc k hk
  have b3 : 0 + zs.length ≤ maxLen := by unfold maxLen; omega
  clear hlen hnews hin hc
  go_enter Try.func13, Try.ntmps13
  go_wp2_with (at_builtin; refine wpList_append_fp _ rfl _ _ 44 rfl 2 i0 (.int .i64 0) 1 8 Try.underlying44 hi hz0 hz1 hz2 rfl (by decide) _ 0 [] rfl (owns_empty _ _ _) ⟨b, off, none⟩ zs.length cap (intsV zs) rfl HL.out (fun j u h => (Keeps.alloc (Keeps.refl NoS w) _).cell (HN.out j u h) (fun f => f)) H1C.out b3 (by omega) ?_; intro v' w1 hown hgr hob; rw [Nat.zero_add, List.nil_append] at hown; obtain ⟨g, c1, rfl, hgs, hcg, hfg⟩ := owns_ints hown (by omega))
  have k1 : Keeps NoS w w1 := ((Keeps.refl NoS w).alloc _).grown hgr (fun k hk hlt => by have hk' : some w.heap.size = some k := hk; simp at hk'; omega)
  have hg0 : w.heap.size ≤ g := by
    rcases hob g rfl with h | h
    · have h' : some w.heap.size = some g := h
      simp at h'; omega
    · simp at h; omega
  refine (new_someN g 0 c1 zs.length zs w1 rfl h1 (by omega) (fun j hj => by rw [Nat.zero_add]; exact hcg j hj)).mono ?_
  rintro e w2 ⟨a, v, rfl, hm, ha, hv, hkp⟩
  have h2 := fresh_in k1 hm ha hv hkp
  have c2 := hkp.cell (hcg k hk) (fun f => f)
  have s2 : g < w2.heap.size := Nat.lt_of_lt_of_le hgs hkp.size
  have f2 : w2.frozen? ⟨g, k, none⟩ = false := by
    have := hown.2
    rcases this with ⟨h, _⟩ | ⟨g', cap', cur, h, _, hb, _⟩
    · cases h
    · simp only [Value.slice.injEq, Option.some.injEq, Addr.mk.injEq, and_true, true_and] at h
      obtain ⟨rfl, _⟩ := h
      exact blk_free (hkp.blk hb (fun f => f)) k
  have hga : g ≠ a := by omega
  have hgv : v.ownBlock ≠ some g := fun e => by have := hv g e; omega
  have hset := fun (u : Value) => h2.setNew (p := ⟨g, k, none⟩) hg0 hga hgv u
  have HS := Lib.hid hset
  clear hset hm ha hv hkp hown hgr hob hcg hfg hgs
  generalize hzk : zs.getD k 0 = z at *
  have HW := Lib.hid (show (MemS.new zs).word k = z from hzk)
  clear hzk
  go_wp2_with fail
  refine (all_any a v _ _ (HS.out _).m).mono ?_
  rintro e w3 ⟨y, rfl, hown, hnew, hkp⟩
  have hown : w3.ownsRow 0 2 1 y zs.length (intsV zs) := hown
  have h3 := (HS.out _).keep hkp
  obtain ⟨g2, c3, rfl, s3, c4, f4⟩ := owns_ints hown h1
  have f3 := f4 k
  have hg2 : w2.heap.size ≤ g2 := by have := hnew g2 rfl; simpa using this
  have h2a := blk_lt h2.m.hd
  have hset := fun (u : Value) => h3.setNew (p := ⟨g2, k, none⟩) (Nat.le_trans h2.kp.size hg2) (by show g2 ≠ a; omega) (fun e => by have : g2 < w2.heap.size := h2.m.own_lt e; omega) u
  have HS3 := Lib.hid hset
  have d3 := c4 k hk
  clear hset hown hnew hkp c4 f4 HS h2 h3
  go_wp2_with fail
  have d0 := (HS3.out (.int .i64 x)).kp.cell e0 (fun f => f)
  go_region_held3 (fun w' => w'.cell? ⟨b, off + k, none⟩ = some (.int .i64 z)) (first | exact d0 | exact d1 | exact d2 | exact d3) (first
    | (go_at_call 37; refine (told2_any _).mono ?_; rintro e w4 ⟨rfl, hk4⟩; have h4 := ((HS3.out _).keep ((Keeps.refl NoS _).drew)).keep hk4; have d1 := h4.kp.cell e0 (fun f => f))
    | (go_at_call 40; refine (peek_at a v _ k _ h4.m hk).mono ?_; rw [HW.out]; rintro e w5 ⟨rfl, rfl⟩)
    | (go_at_call 56; refine (rnew_in w _ zs _ HI.out h4.kp (by omega)).mono ?_; rintro e w10 ⟨c, u, rfl, hr, hc, hu, hkr⟩; have hT := TwoT.make h4 hr hc hu hkr; have d2 := hT.s.kp.cell e0 (fun f => f))
    | (go_at_call 55; refine (same_any a c v u _ _ _ hT.s.m hT.r.m rfl).mono ?_; rintro e w11 ⟨rfl, hk11⟩; have k11 := hT.s.kp.trans hk11; have d3 := k11.cell e0 (fun f => f)))
  go_wp2_with fail
  go_ret
  exact ⟨rfl, k11⟩
theorem memOwn_walk (w : World) (v0 : Value) (zs : List Int) (hin : InI w v0 zs) (_f0 : ∀ k, k < zs.length → (Lit.int .i64 (zs.getD k 0)).wf = true) (a1 : Int) (_w1 : (Lit.int .i64 a1).wf = true) (a2 : Int) (_w2 : (Lit.int .i64 a2).wf = true) :
    Calls Try.prog 13 #[v0, .int .i64 a1, .int .i64 a2] w fun e w' => e = .returned (.bool true) ∧ Keeps NoS w w' := by
  by_cases h : 1 ≤ zs.length ∧ zs.length ≤ 40
  · exact memOwn_main w v0 zs hin a1 a2 h.1 h.2
  · have h : zs.length < 1 ∨ 40 < zs.length := by omega
    obtain ⟨p, cap, rfl, hmax, _, _⟩ := hin
    go_enter Try.func13, Try.ntmps13
    rcases h with h | h
    all_goals
      go_wp2_with (go_at_call 37; refine (told2_any _).mono ?_; rintro e w3 ⟨rfl, hk3⟩)
      go_ret
      exact ⟨rfl, hk3⟩
end Go.Proofs.Ytldleacoajlinaa
