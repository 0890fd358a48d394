/- An initial pair holds for the initial values of both functions for all arguments; any other pair does not hold for arguments that are different and not 0. No condition. -/
import Derived.Test.YtndbpljldmnkcaaZEdgeInitial21
import Derived.Test.YtndbpljldmnkcaaZEdgeInitial22
import Derived.Test.YtndbpljldmnkcaaZEdgeInitial26
namespace Go.Proofs.Ytndbpljldmnkcaa.PEdgeInitial
open Go.RowKit Go.Proofs.YtndbpljldmnkcaaW.PrintWords Go.Proofs.YtndbpljldmnkcaaW.PrintLast Go.Proofs.YtndbpljldmnkcaaW.PrintMore
attribute [local go_sem] max2_int min2_int max_two min_two max_three min_three max_four min_four   
set_option linter.unusedVariables false
set_option linter.unusedSimpArgs false
mutual
def regcertlaw15_EdgeInitial.j0 : Nat → Int → List Int → Bool → Int → Int → Option (Bool)
  | 0, _, _, _, _, _ => none
  | k + 1, x1, x2, x31, x170000, x170001 => if x31 = true then ((regcertlaw15_awake.f k).bind fun t171 => (some t171)) else ((edge_Initial.f x170000 x170001 (wrap64 (x1))).bind fun t172 => (if x170000 < (wrap64 (x1)) then (if 0 ≤ x170000 then (if x170000 < (x2.length : Int) then (regcertlaw15_EdgeInitial.j1 k x2 (wrap64 (x1)) t172 (rd x2 x170000) x170000 x170001) else (none)) else (none)) else (regcertlaw15_EdgeInitial.j1 k x2 (wrap64 (x1)) t172 0 x170000 x170001)))
def regcertlaw15_EdgeInitial.j1 : Nat → List Int → Int → Bool → Int → Int → Int → Option (Bool)
  | 0, _, _, _, _, _, _ => none
  | k + 1, x2, x7, x8, x9, x170000, x170001 => if (Int.tmod x170001 2) = 1 then (regcertlaw15_EdgeInitial.j2 k x2 x7 x8 x9 0 (decide ((wrap64 (Int.tdiv x170001 2)) < x7)) x170000 x170001) else (regcertlaw15_EdgeInitial.j2 k x2 x7 x8 x9 0 false x170000 x170001)
def regcertlaw15_EdgeInitial.j2 : Nat → List Int → Int → Bool → Int → Int → Bool → Int → Int → Option (Bool)
  | 0, _, _, _, _, _, _, _, _ => none
  | k + 1, x2, x7, x8, x9, x10, x57, x170000, x170001 => if x57 = true then (if 0 ≤ (wrap64 (Int.tdiv x170001 2)) then (if (wrap64 (Int.tdiv x170001 2)) < (x2.length : Int) then (regcertlaw15_EdgeInitial.j3 k x7 x8 x9 (rd x2 (wrap64 (Int.tdiv x170001 2))) x170000 x170001) else (none)) else (none)) else (regcertlaw15_EdgeInitial.j3 k x7 x8 x9 x10 x170000 x170001)
def regcertlaw15_EdgeInitial.j3 : Nat → Int → Bool → Int → Int → Int → Int → Option (Bool)
  | 0, _, _, _, _, _, _ => none
  | k + 1, x7, x8, x9, x10, x170000, x170001 => if x8 = true then (regcertlaw15_EdgeInitial.j4 k x7 x8 (x9 != x10) x170000 x170001) else (regcertlaw15_EdgeInitial.j4 k x7 x8 false x170000 x170001)
def regcertlaw15_EdgeInitial.j4 : Nat → Int → Bool → Bool → Int → Int → Option (Bool)
  | 0, _, _, _, _, _ => none
  | k + 1, x7, x8, x69, x170000, x170001 => if x69 = true then (none) else (if x170000 < x7 then (if (Int.tmod x170001 2) = 1 then (if (wrap64 (Int.tdiv x170001 2)) < x7 then (some (x8 == ((wrap64 (x170000 + 1)) == (wrap64 ((wrap64 (Int.tdiv x170001 2)) + 1))))) else (some (x8 == ((wrap64 (x170000 + 1)) == 0)))) else (some (x8 == ((wrap64 (x170000 + 1)) == 0)))) else (if (Int.tmod x170001 2) = 1 then (if (wrap64 (Int.tdiv x170001 2)) < x7 then (some (x8 == (0 == (wrap64 ((wrap64 (Int.tdiv x170001 2)) + 1))))) else (some (x8 == (0 == 0)))) else (some (x8 == (0 == 0)))))
end
def regcertlaw15_EdgeInitial.f (k : Nat) (a0_0 : Int) (a0_1 : Int) (a1 : Int) (l2 : List Int) : Option (Bool) := (regcertlaw15_awake.f k).bind fun t170 => (if t170 = true then (if a0_0 < 0 then (regcertlaw15_EdgeInitial.j0 k a1 l2 true a0_0 a0_1) else (if a0_1 < 0 then (regcertlaw15_EdgeInitial.j0 k a1 l2 true a0_0 a0_1) else (regcertlaw15_EdgeInitial.j0 k a1 l2 (decide ((l2.length : Int) < (wrap64 (a1)))) a0_0 a0_1))) else (regcertlaw15_EdgeInitial.j0 k a1 l2 true a0_0 a0_1))
theorem regcertlaw15_EdgeInitial.mono_l : ∀ k, (∀ y0 y1 y2 y3 y4, LeO (regcertlaw15_EdgeInitial.j0 k y0 y1 y2 y3 y4) (regcertlaw15_EdgeInitial.j0 (k + 1) y0 y1 y2 y3 y4)) ∧ (∀ y0 y1 y2 y3 y4 y5, LeO (regcertlaw15_EdgeInitial.j1 k y0 y1 y2 y3 y4 y5) (regcertlaw15_EdgeInitial.j1 (k + 1) y0 y1 y2 y3 y4 y5)) ∧ (∀ y0 y1 y2 y3 y4 y5 y6 y7, LeO (regcertlaw15_EdgeInitial.j2 k y0 y1 y2 y3 y4 y5 y6 y7) (regcertlaw15_EdgeInitial.j2 (k + 1) y0 y1 y2 y3 y4 y5 y6 y7)) ∧ (∀ y0 y1 y2 y3 y4 y5, LeO (regcertlaw15_EdgeInitial.j3 k y0 y1 y2 y3 y4 y5) (regcertlaw15_EdgeInitial.j3 (k + 1) y0 y1 y2 y3 y4 y5)) ∧ (∀ y0 y1 y2 y3 y4, LeO (regcertlaw15_EdgeInitial.j4 k y0 y1 y2 y3 y4) (regcertlaw15_EdgeInitial.j4 (k + 1) y0 y1 y2 y3 y4))
  | 0 => ⟨fun _ _ _ _ _ r h => by simp [regcertlaw15_EdgeInitial.j0] at h, fun _ _ _ _ _ _ r h => by simp [regcertlaw15_EdgeInitial.j1] at h, fun _ _ _ _ _ _ _ _ r h => by simp [regcertlaw15_EdgeInitial.j2] at h, fun _ _ _ _ _ _ r h => by simp [regcertlaw15_EdgeInitial.j3] at h, fun _ _ _ _ _ r h => by simp [regcertlaw15_EdgeInitial.j4] at h⟩
  | k + 1 => by
    obtain ⟨ih0, ih1, ih2, ih3, ih4⟩ := regcertlaw15_EdgeInitial.mono_l k
    refine ⟨?_, ?_, ?_, ?_, ?_⟩
    · intro y0 y1 y2 y3 y4
      unfold regcertlaw15_EdgeInitial.j0
      repeat' first
      | (with_reducible exact ih0 _ _ _ _ _)
      | (with_reducible exact ih1 _ _ _ _ _ _)
      | (with_reducible exact ih2 _ _ _ _ _ _ _ _)
      | (with_reducible exact ih3 _ _ _ _ _ _)
      | (with_reducible exact ih4 _ _ _ _ _)
      | (with_reducible exact regcertlaw15_awake.mono _)
      | (with_reducible exact LeO.refl _)
      | (with_reducible exact LeO.none _)
      | (with_reducible refine LeO.ite ?_ ?_)
      | (with_reducible refine LeO.bind ?_ (fun _ => ?_))
      | exact ih0 _ _ _ _ _
      | exact ih1 _ _ _ _ _ _
      | exact ih2 _ _ _ _ _ _ _ _
      | exact ih3 _ _ _ _ _ _
      | exact ih4 _ _ _ _ _
      | exact regcertlaw15_awake.mono _
      | exact LeO.none _
      | refine LeO.ite ?_ ?_
      | refine LeO.bind ?_ (fun _ => ?_)
    · intro y0 y1 y2 y3 y4 y5
      unfold regcertlaw15_EdgeInitial.j1
      repeat' first
      | (with_reducible exact ih0 _ _ _ _ _)
      | (with_reducible exact ih1 _ _ _ _ _ _)
      | (with_reducible exact ih2 _ _ _ _ _ _ _ _)
      | (with_reducible exact ih3 _ _ _ _ _ _)
      | (with_reducible exact ih4 _ _ _ _ _)
      | (with_reducible exact regcertlaw15_awake.mono _)
      | (with_reducible exact LeO.refl _)
      | (with_reducible exact LeO.none _)
      | (with_reducible refine LeO.ite ?_ ?_)
      | (with_reducible refine LeO.bind ?_ (fun _ => ?_))
      | exact ih0 _ _ _ _ _
      | exact ih1 _ _ _ _ _ _
      | exact ih2 _ _ _ _ _ _ _ _
      | exact ih3 _ _ _ _ _ _
      | exact ih4 _ _ _ _ _
      | exact regcertlaw15_awake.mono _
      | exact LeO.none _
      | refine LeO.ite ?_ ?_
      | refine LeO.bind ?_ (fun _ => ?_)
    · intro y0 y1 y2 y3 y4 y5 y6 y7
      unfold regcertlaw15_EdgeInitial.j2
      repeat' first
      | (with_reducible exact ih0 _ _ _ _ _)
      | (with_reducible exact ih1 _ _ _ _ _ _)
      | (with_reducible exact ih2 _ _ _ _ _ _ _ _)
      | (with_reducible exact ih3 _ _ _ _ _ _)
      | (with_reducible exact ih4 _ _ _ _ _)
      | (with_reducible exact regcertlaw15_awake.mono _)
      | (with_reducible exact LeO.refl _)
      | (with_reducible exact LeO.none _)
      | (with_reducible refine LeO.ite ?_ ?_)
      | (with_reducible refine LeO.bind ?_ (fun _ => ?_))
      | exact ih0 _ _ _ _ _
      | exact ih1 _ _ _ _ _ _
      | exact ih2 _ _ _ _ _ _ _ _
      | exact ih3 _ _ _ _ _ _
      | exact ih4 _ _ _ _ _
      | exact regcertlaw15_awake.mono _
      | exact LeO.none _
      | refine LeO.ite ?_ ?_
      | refine LeO.bind ?_ (fun _ => ?_)
    · intro y0 y1 y2 y3 y4 y5
      unfold regcertlaw15_EdgeInitial.j3
      repeat' first
      | (with_reducible exact ih0 _ _ _ _ _)
      | (with_reducible exact ih1 _ _ _ _ _ _)
      | (with_reducible exact ih2 _ _ _ _ _ _ _ _)
      | (with_reducible exact ih3 _ _ _ _ _ _)
      | (with_reducible exact ih4 _ _ _ _ _)
      | (with_reducible exact regcertlaw15_awake.mono _)
      | (with_reducible exact LeO.refl _)
      | (with_reducible exact LeO.none _)
      | (with_reducible refine LeO.ite ?_ ?_)
      | (with_reducible refine LeO.bind ?_ (fun _ => ?_))
      | exact ih0 _ _ _ _ _
      | exact ih1 _ _ _ _ _ _
      | exact ih2 _ _ _ _ _ _ _ _
      | exact ih3 _ _ _ _ _ _
      | exact ih4 _ _ _ _ _
      | exact regcertlaw15_awake.mono _
      | exact LeO.none _
      | refine LeO.ite ?_ ?_
      | refine LeO.bind ?_ (fun _ => ?_)
    · intro y0 y1 y2 y3 y4
      unfold regcertlaw15_EdgeInitial.j4
      repeat' first
      | (with_reducible exact ih0 _ _ _ _ _)
      | (with_reducible exact ih1 _ _ _ _ _ _)
      | (with_reducible exact ih2 _ _ _ _ _ _ _ _)
      | (with_reducible exact ih3 _ _ _ _ _ _)
      | (with_reducible exact ih4 _ _ _ _ _)
      | (with_reducible exact regcertlaw15_awake.mono _)
      | (with_reducible exact LeO.refl _)
      | (with_reducible exact LeO.none _)
      | (with_reducible refine LeO.ite ?_ ?_)
      | (with_reducible refine LeO.bind ?_ (fun _ => ?_))
      | exact ih0 _ _ _ _ _
      | exact ih1 _ _ _ _ _ _
      | exact ih2 _ _ _ _ _ _ _ _
      | exact ih3 _ _ _ _ _ _
      | exact ih4 _ _ _ _ _
      | exact regcertlaw15_awake.mono _
      | exact LeO.none _
      | refine LeO.ite ?_ ?_
      | refine LeO.bind ?_ (fun _ => ?_)
theorem regcertlaw15_EdgeInitial.mono : ∀ a0 a1 a2 a3 k, LeO (regcertlaw15_EdgeInitial.f k a0 a1 a2 a3) (regcertlaw15_EdgeInitial.f (k + 1) a0 a1 a2 a3) := by
  intro a0 a1 a2 a3 k
  obtain ⟨ih0, ih1, ih2, ih3, ih4⟩ := regcertlaw15_EdgeInitial.mono_l k
  unfold regcertlaw15_EdgeInitial.f
  repeat' first
      | (with_reducible exact ih0 _ _ _ _ _)
      | (with_reducible exact ih1 _ _ _ _ _ _)
      | (with_reducible exact ih2 _ _ _ _ _ _ _ _)
      | (with_reducible exact ih3 _ _ _ _ _ _)
      | (with_reducible exact ih4 _ _ _ _ _)
      | (with_reducible exact regcertlaw15_awake.mono _)
      | (with_reducible exact LeO.refl _)
      | (with_reducible exact LeO.none _)
      | (with_reducible refine LeO.ite ?_ ?_)
      | (with_reducible refine LeO.bind ?_ (fun _ => ?_))
      | exact ih0 _ _ _ _ _
      | exact ih1 _ _ _ _ _ _
      | exact ih2 _ _ _ _ _ _ _ _
      | exact ih3 _ _ _ _ _ _
      | exact ih4 _ _ _ _ _
      | exact regcertlaw15_awake.mono _
      | exact LeO.none _
      | refine LeO.ite ?_ ?_
      | refine LeO.bind ?_ (fun _ => ?_)
set_option maxHeartbeats 8000000 in
set_option maxRecDepth 100000 in
theorem regcertlaw15_EdgeInitial.calls (k : Nat) (a0_0 : Int) (a0_1 : Int) (a1 : Int) (A2 : Option Addr) (c2 : Nat) (l2 : List Int) (r : Bool) (w : World) (hr2 : Kd.C (Kd.int .i64) w A2 l2.length l2) (hc2 : l2.length ≤ c2) (h : regcertlaw15_EdgeInitial.f k a0_0 a0_1 a1 l2 = some r) :
    Calls Try.prog 3 #[.agg #[.int .i64 a0_0, .int .i64 a0_1], .int .u8 a1, .slice A2 l2.length c2] w fun e w' => e = .returned (.bool r) ∧ Below w.heap.size w w' := by
  have hu24 := Try.underlying24
  have HR2 := Aside0.mk hr2
  have HC2 := Aside0.mk hc2
  clear hr2 hc2
  have HB := Aside0.mk (Below.refl w.heap.size w)
  have H : ((regcertlaw15_awake.f k).bind fun t170 => (if t170 = true then (if a0_0 < 0 then (regcertlaw15_EdgeInitial.j0 k a1 l2 true a0_0 a0_1) else (if a0_1 < 0 then (regcertlaw15_EdgeInitial.j0 k a1 l2 true a0_0 a0_1) else (regcertlaw15_EdgeInitial.j0 k a1 l2 (decide ((l2.length : Int) < (wrap64 (a1)))) a0_0 a0_1))) else (regcertlaw15_EdgeInitial.j0 k a1 l2 true a0_0 a0_1))) = some r := h
  clear h
  have HC4 := Aside0.mk H
  clear H
  go_enter Try.func3, Try.ntmps3
  go_upto_region 1 with (first | ((with_reducible refine gate_dst (N := 3) rfl ?_); (try (refine gate_guard (by rfl) ?_; dsimp only)); refine box_event ?hg (N := 3) ?hd (cs := #[.int .i64 a0_0, .int .i64 a0_1]) (t := 24) ?hr ?_; (case hd => rfl); (case hg => rfl); (case hr => first | (go_simp; done) | (go_simp; rfl)); intro gb169 hg w5 hbox hb; have n0_ := Aside0.mk (below_step (by repeat (first | (with_reducible first | exact HB.out | apply below_alloc | apply pw_below_drewN | apply below_drew1) | exact HB.out)) hb); have n1_ := Aside0.mk (hbox); have n2_ := Aside0.mk ((by rw [hg]; exact (below_size (by repeat (first | (with_reducible first | exact HB.out | apply below_alloc | apply pw_below_drewN | apply below_drew1) | exact HB.out))) : w.heap.size ≤ gb169)); have n3_ := Aside0.mk ((by rw [hg]; exact (below_size (by repeat (first | (with_reducible first | exact HB.out | apply below_alloc | apply pw_below_drewN | apply below_drew1) | exact HB.out))) : w.heap.size ≤ gb169)); clear HB; have HB := n0_; have BK169 := n1_; have GW169 := n2_; have GE169 := n3_; clear n0_ n1_ n2_ n3_; clear hb hbox hg))
  (try simp only [Act.put, List.setIfInBounds_toArray, List.set_cons_zero, List.set_cons_succ])
  go_cut [31] (fun v31 wc => ∃ (kq : Nat) (x31_3 : Bool), v31 = .bool x31_3 ∧ Aside0 (regcertlaw15_EdgeInitial.j0 kq a1 l2 x31_3 a0_0 a0_1 = some r) ∧ Aside0 (kq ≤ k) ∧ Aside0 (wc.heap[gb169]? = some (.cells #[.int .i64 a0_0, .int .i64 a0_1] 24 (0, 0))) ∧ Aside0 (Below w.heap.size w wc))
  case first =>
    have H := HC4.out
    clear HC4
    replace H := Option.bind_eq_some_iff.mp H
    obtain ⟨t170, A60, H⟩ := H
    replace H : (if t170 = true then (if a0_0 < 0 then (regcertlaw15_EdgeInitial.j0 k a1 l2 true a0_0 a0_1) else (if a0_1 < 0 then (regcertlaw15_EdgeInitial.j0 k a1 l2 true a0_0 a0_1) else (regcertlaw15_EdgeInitial.j0 k a1 l2 (decide ((l2.length : Int) < (wrap64 (a1)))) a0_0 a0_1))) else (regcertlaw15_EdgeInitial.j0 k a1 l2 true a0_0 a0_1)) = some r := H
    have A6 := Aside0.mk A60
    clear A60
    by_cases c7 : t170 = true
    · subst c7
      have H1 : (if a0_0 < 0 then (regcertlaw15_EdgeInitial.j0 k a1 l2 true a0_0 a0_1) else (if a0_1 < 0 then (regcertlaw15_EdgeInitial.j0 k a1 l2 true a0_0 a0_1) else (regcertlaw15_EdgeInitial.j0 k a1 l2 (decide ((l2.length : Int) < (wrap64 (a1)))) a0_0 a0_1))) = some r := by rw [if_pos rfl] at H; exact H
      clear H
      have H := H1
      clear H1
      by_cases c8 : a0_0 < 0
      · rw [if_pos c8] at H
        have c8b0 : decide (a0_0 < 0) = true := decide_eq_true c8
        clear c8
        (first | rw [c8b0] | (simp only [i64_w, i32_w]; rw [c8b0]) | skip)
        have H' := Aside0.mk H
        clear H
        go_wp2_with (first | ((with_reducible refine gate_callee (f := 12) rfl ?_); refine goesL_ (some 13) rfl rfl Try.func12 (by kernel_rfl) rfl #[] rfl (by (try simp only [List.map_toArray, List.map_cons, List.map_nil]); first | done | rfl | (simp only [List.length_drop, List.length_take]; rfl)) ?_; (with_reducible refine (regcertlaw15_awake.calls k  true _ A6.out).mono ?_); rintro e w9 ⟨rfl, hb⟩; refine ⟨_, rfl, ?_⟩; have n0_ := Aside0.mk (blk_below (g := gb169) (o := .cells #[.int .i64 a0_0, .int .i64 a0_1] 24 (0, 0)) (by (with_reducible repeat (first | refine blk_drewN ?_ _ | refine blk_drew ?_ | refine blk_alloc ?_ _)); exact BK169.out) hb); have n1_ := Aside0.mk (below_step (by repeat (first | (with_reducible first | exact HB.out | apply below_alloc | apply pw_below_drewN | apply below_drew1 | refine below_set ?_ GE169.out) | exact HB.out)) hb); clear BK169; clear HB; have BK169 := n0_; have HB := n1_; clear n0_ n1_; (try clear hb); (try clear hb2); (try clear hk); (try clear hi); have hcz10_0 : w9.cell? ⟨gb169, 0, none⟩ = some (.int .i64 a0_0) := (blk_cell BK169.out 0).trans rfl; have hcz10_1 : w9.cell? ⟨gb169, 1, none⟩ = some (.int .i64 a0_1) := (blk_cell BK169.out 1).trans rfl; have hfz10_0 := blk_frozen BK169.out 0; have hfz10_1 := blk_frozen BK169.out 1))
        go_meet
        case rel => exact ⟨_, (true), (by first | rfl | (simp; done) | (simp [*]; done)), H', ⟨by first | omega | exact Nat.le_refl _⟩, ⟨by (with_reducible repeat (first | refine blk_drewN ?_ _ | refine blk_drew ?_ | refine blk_alloc ?_ _)); exact BK169.out⟩, ⟨by repeat (first | (with_reducible first | exact HB.out | apply below_alloc | apply pw_below_drewN | apply below_drew1 | refine below_set ?_ GE169.out) | exact HB.out)⟩⟩
      · rw [if_neg c8] at H
        have c8b0 : decide (a0_0 < 0) = false := decide_eq_false c8
        clear c8
        (first | rw [c8b0] | (simp only [i64_w, i32_w]; rw [c8b0]) | skip)
        by_cases c11 : a0_1 < 0
        · rw [if_pos c11] at H
          have c11b0 : decide (a0_1 < 0) = true := decide_eq_true c11
          clear c11
          have H' := Aside0.mk H
          clear H
          go_wp2_with (first | ((with_reducible refine gate_callee (f := 12) rfl ?_); refine goesL_ (some 13) rfl rfl Try.func12 (by kernel_rfl) rfl #[] rfl (by (try simp only [List.map_toArray, List.map_cons, List.map_nil]); first | done | rfl | (simp only [List.length_drop, List.length_take]; rfl)) ?_; (with_reducible refine (regcertlaw15_awake.calls k  true _ A6.out).mono ?_); rintro e w12 ⟨rfl, hb⟩; refine ⟨_, rfl, ?_⟩; have n0_ := Aside0.mk (blk_below (g := gb169) (o := .cells #[.int .i64 a0_0, .int .i64 a0_1] 24 (0, 0)) (by (with_reducible repeat (first | refine blk_drewN ?_ _ | refine blk_drew ?_ | refine blk_alloc ?_ _)); exact BK169.out) hb); have n1_ := Aside0.mk (below_step (by repeat (first | (with_reducible first | exact HB.out | apply below_alloc | apply pw_below_drewN | apply below_drew1 | refine below_set ?_ GE169.out) | exact HB.out)) hb); clear BK169; clear HB; have BK169 := n0_; have HB := n1_; clear n0_ n1_; (try clear hb); (try clear hb2); (try clear hk); (try clear hi); have hcz13_0 : w12.cell? ⟨gb169, 0, none⟩ = some (.int .i64 a0_0) := (blk_cell BK169.out 0).trans rfl; have hcz13_1 : w12.cell? ⟨gb169, 1, none⟩ = some (.int .i64 a0_1) := (blk_cell BK169.out 1).trans rfl; have hfz13_0 := blk_frozen BK169.out 0; have hfz13_1 := blk_frozen BK169.out 1))
          go_meet
          case rel => exact ⟨_, (true), (by first | rfl | (simp; done) | (simp [*]; done)), H', ⟨by first | omega | exact Nat.le_refl _⟩, ⟨by (with_reducible repeat (first | refine blk_drewN ?_ _ | refine blk_drew ?_ | refine blk_alloc ?_ _)); exact BK169.out⟩, ⟨by repeat (first | (with_reducible first | exact HB.out | apply below_alloc | apply pw_below_drewN | apply below_drew1 | refine below_set ?_ GE169.out) | exact HB.out)⟩⟩
        · rw [if_neg c11] at H
          have c11b0 : decide (a0_1 < 0) = false := decide_eq_false c11
          clear c11
          have H' := Aside0.mk H
          clear H
          go_wp2_with (first | ((with_reducible refine gate_callee (f := 12) rfl ?_); refine goesL_ (some 13) rfl rfl Try.func12 (by kernel_rfl) rfl #[] rfl (by (try simp only [List.map_toArray, List.map_cons, List.map_nil]); first | done | rfl | (simp only [List.length_drop, List.length_take]; rfl)) ?_; (with_reducible refine (regcertlaw15_awake.calls k  true _ A6.out).mono ?_); rintro e w14 ⟨rfl, hb⟩; refine ⟨_, rfl, ?_⟩; have n0_ := Aside0.mk (blk_below (g := gb169) (o := .cells #[.int .i64 a0_0, .int .i64 a0_1] 24 (0, 0)) (by (with_reducible repeat (first | refine blk_drewN ?_ _ | refine blk_drew ?_ | refine blk_alloc ?_ _)); exact BK169.out) hb); have n1_ := Aside0.mk (below_step (by repeat (first | (with_reducible first | exact HB.out | apply below_alloc | apply pw_below_drewN | apply below_drew1 | refine below_set ?_ GE169.out) | exact HB.out)) hb); clear BK169; clear HB; have BK169 := n0_; have HB := n1_; clear n0_ n1_; (try clear hb); (try clear hb2); (try clear hk); (try clear hi); have hcz15_0 : w14.cell? ⟨gb169, 0, none⟩ = some (.int .i64 a0_0) := (blk_cell BK169.out 0).trans rfl; have hcz15_1 : w14.cell? ⟨gb169, 1, none⟩ = some (.int .i64 a0_1) := (blk_cell BK169.out 1).trans rfl; have hfz15_0 := blk_frozen BK169.out 0; have hfz15_1 := blk_frozen BK169.out 1))
          go_meet
          case rel => exact ⟨_, (decide ((l2.length : Int) < (wrap64 (a1)))), (by first | rfl | (simp; done) | (simp [*]; done)), H', ⟨by first | omega | exact Nat.le_refl _⟩, ⟨by (with_reducible repeat (first | refine blk_drewN ?_ _ | refine blk_drew ?_ | refine blk_alloc ?_ _)); exact BK169.out⟩, ⟨by repeat (first | (with_reducible first | exact HB.out | apply below_alloc | apply pw_below_drewN | apply below_drew1 | refine below_set ?_ GE169.out) | exact HB.out)⟩⟩
    · replace c7 := Bool.eq_false_iff.mpr c7
      subst c7
      have H1 : (regcertlaw15_EdgeInitial.j0 k a1 l2 true a0_0 a0_1) = some r := by rw [if_neg (show ¬ (false = true) by decide)] at H; exact H
      clear H
      have H := H1
      clear H1
      have H' := Aside0.mk H
      clear H
      go_wp2_with (first | ((with_reducible refine gate_callee (f := 12) rfl ?_); refine goesL_ (some 13) rfl rfl Try.func12 (by kernel_rfl) rfl #[] rfl (by (try simp only [List.map_toArray, List.map_cons, List.map_nil]); first | done | rfl | (simp only [List.length_drop, List.length_take]; rfl)) ?_; (with_reducible refine (regcertlaw15_awake.calls k  false _ A6.out).mono ?_); rintro e w16 ⟨rfl, hb⟩; refine ⟨_, rfl, ?_⟩; have n0_ := Aside0.mk (blk_below (g := gb169) (o := .cells #[.int .i64 a0_0, .int .i64 a0_1] 24 (0, 0)) (by (with_reducible repeat (first | refine blk_drewN ?_ _ | refine blk_drew ?_ | refine blk_alloc ?_ _)); exact BK169.out) hb); have n1_ := Aside0.mk (below_step (by repeat (first | (with_reducible first | exact HB.out | apply below_alloc | apply pw_below_drewN | apply below_drew1 | refine below_set ?_ GE169.out) | exact HB.out)) hb); clear BK169; clear HB; have BK169 := n0_; have HB := n1_; clear n0_ n1_; (try clear hb); (try clear hb2); (try clear hk); (try clear hi)))
      go_meet
      case rel => exact ⟨_, (true), (by first | rfl | (simp; done) | (simp [*]; done)), H', ⟨by first | omega | exact Nat.le_refl _⟩, ⟨by (with_reducible repeat (first | refine blk_drewN ?_ _ | refine blk_drew ?_ | refine blk_alloc ?_ _)); exact BK169.out⟩, ⟨by repeat (first | (with_reducible first | exact HB.out | apply below_alloc | apply pw_below_drewN | apply below_drew1 | refine below_set ?_ GE169.out) | exact HB.out)⟩⟩
  case rest =>
    clear HC4
    try clear c1
    try clear c2
    try clear p2
    try clear c3
    try clear p6
    try clear c7
    try clear c8
    try clear c8b0
    try clear c11
    try clear c11b0
    try clear c12
    try clear hcz10_0
    try clear hcz10_1
    try clear hcz13_0
    try clear hcz13_1
    try clear hcz15_0
    try clear hcz15_1
    try clear hfz10_0
    try clear hfz10_1
    try clear hfz13_0
    try clear hfz13_1
    try clear hfz15_0
    try clear hfz15_1
    obtain ⟨kq, x31_3, rfl, HA, HJ3, BK169, HB⟩ := hcut
    cases kq with
    | zero => exact absurd HA.out (by simp [regcertlaw15_EdgeInitial.j0])
    | succ kj3 =>
      have H := HA.out
      clear HA
      simp only [regcertlaw15_EdgeInitial.j0] at H
      by_cases c17 : x31_3 = true
      · subst c17
        have H1 : ((regcertlaw15_awake.f kj3).bind fun t171 => (some t171)) = some r := by rw [if_pos rfl] at H; exact H
        clear H
        have H := H1
        clear H1
        replace H := Option.bind_eq_some_iff.mp H
        obtain ⟨t171, A180, H⟩ := H
        replace H : (some t171) = some r := H
        have A18 := Aside0.mk A180
        clear A180
        obtain rfl := Option.some.inj H
        go_wp2_with (first | ((with_reducible refine gate_callee (f := 12) rfl ?_); refine goesL_ (some 32) rfl rfl Try.func12 (by kernel_rfl) rfl #[] rfl (by (try simp only [List.map_toArray, List.map_cons, List.map_nil]); first | done | rfl | (simp only [List.length_drop, List.length_take]; rfl)) ?_; (with_reducible refine (regcertlaw15_awake.calls kj3  t171 _ A18.out).mono ?_); rintro e w19 ⟨rfl, hb⟩; refine ⟨_, rfl, ?_⟩; have n0_ := Aside0.mk (blk_below (g := gb169) (o := .cells #[.int .i64 a0_0, .int .i64 a0_1] 24 (0, 0)) (by (with_reducible repeat (first | refine blk_drewN ?_ _ | refine blk_drew ?_ | refine blk_alloc ?_ _)); exact BK169.out) hb); have n1_ := Aside0.mk (below_step (by repeat (first | (with_reducible first | exact HB.out | apply below_alloc | apply pw_below_drewN | apply below_drew1 | refine below_set ?_ GE169.out) | exact HB.out)) hb); clear BK169; clear HB; have BK169 := n0_; have HB := n1_; clear n0_ n1_; (try clear hb); (try clear hb2); (try clear hk); (try clear hi)))
        go_ret
        exact ⟨by first | rfl | (simp [errW_none, errW_some] <;> rfl) | (simp [*, errW_none, errW_some] <;> rfl), by repeat (first | (with_reducible first | exact HB.out | apply below_alloc | apply pw_below_drewN | apply below_drew1 | refine below_set ?_ GE169.out) | exact HB.out)⟩
      · replace c17 := Bool.eq_false_iff.mpr c17
        subst c17
        have H1 : ((edge_Initial.f a0_0 a0_1 (wrap64 (a1))).bind fun t172 => (if a0_0 < (wrap64 (a1)) then (if 0 ≤ a0_0 then (if a0_0 < (l2.length : Int) then (regcertlaw15_EdgeInitial.j1 kj3 l2 (wrap64 (a1)) t172 (rd l2 a0_0) a0_0 a0_1) else (none)) else (none)) else (regcertlaw15_EdgeInitial.j1 kj3 l2 (wrap64 (a1)) t172 0 a0_0 a0_1))) = some r := by rw [if_neg (show ¬ (false = true) by decide)] at H; exact H
        clear H
        have H := H1
        clear H1
        replace H := Option.bind_eq_some_iff.mp H
        obtain ⟨t172, A200, H⟩ := H
        replace H : (if a0_0 < (wrap64 (a1)) then (if 0 ≤ a0_0 then (if a0_0 < (l2.length : Int) then (regcertlaw15_EdgeInitial.j1 kj3 l2 (wrap64 (a1)) t172 (rd l2 a0_0) a0_0 a0_1) else (none)) else (none)) else (regcertlaw15_EdgeInitial.j1 kj3 l2 (wrap64 (a1)) t172 0 a0_0 a0_1)) = some r := H
        have A20 := Aside0.mk A200
        clear A200
        have HC21 := Aside0.mk H
        clear H
        have hcz22_0 : wc.cell? ⟨gb169, 0, none⟩ = some (.int .i64 a0_0) := (blk_cell BK169.out 0).trans rfl
        have hcz22_1 : wc.cell? ⟨gb169, 1, none⟩ = some (.int .i64 a0_1) := (blk_cell BK169.out 1).trans rfl
        have hfz22_0 := blk_frozen BK169.out 0
        have hfz22_1 := blk_frozen BK169.out 1
        go_upto_if 41 with (first | ((with_reducible refine gate_callee (f := 13) rfl ?_); refine goesL_ (some 37) rfl rfl Try.func13 (by kernel_rfl) rfl #[.agg #[.int .i64 a0_0, .int .i64 a0_1], .int .i64 (wrap64 (a1))] rfl (by (try simp only [List.map_toArray, List.map_cons, List.map_nil]); first | done | rfl | (simp only [List.length_drop, List.length_take]; rfl)) ?_; (with_reducible refine (edge_Initial.calls a0_0 a0_1 (wrap64 (a1)) t172 _ A20.out).mono ?_); rintro e w23 ⟨rfl, hb⟩; refine ⟨_, rfl, ?_⟩; have n0_ := Aside0.mk (blk_below (g := gb169) (o := .cells #[.int .i64 a0_0, .int .i64 a0_1] 24 (0, 0)) (by (with_reducible repeat (first | refine blk_drewN ?_ _ | refine blk_drew ?_ | refine blk_alloc ?_ _)); exact BK169.out) hb); have n1_ := Aside0.mk (below_step (by repeat (first | (with_reducible first | exact HB.out | apply below_alloc | apply pw_below_drewN | apply below_drew1 | refine below_set ?_ GE169.out) | exact HB.out)) hb); clear BK169; clear HB; have BK169 := n0_; have HB := n1_; clear n0_ n1_; (try clear hb); (try clear hb2); (try clear hk); (try clear hi); have hcz24_0 : w23.cell? ⟨gb169, 0, none⟩ = some (.int .i64 a0_0) := (blk_cell BK169.out 0).trans rfl; have hcz24_1 : w23.cell? ⟨gb169, 1, none⟩ = some (.int .i64 a0_1) := (blk_cell BK169.out 1).trans rfl; have hfz24_0 := blk_frozen BK169.out 0; have hfz24_1 := blk_frozen BK169.out 1))
        (try simp only [Act.put, List.setIfInBounds_toArray, List.set_cons_zero, List.set_cons_succ])
        go_cut [9] (fun v9 wc => ∃ (kq : Nat) (x9_20 : Int), v9 = .int .i64 x9_20 ∧ Aside0 (regcertlaw15_EdgeInitial.j1 kq l2 (wrap64 (a1)) t172 x9_20 a0_0 a0_1 = some r) ∧ Aside0 (kq ≤ kj3) ∧ Aside0 (wc.heap[gb169]? = some (.cells #[.int .i64 a0_0, .int .i64 a0_1] 24 (0, 0))) ∧ Aside0 (Below w.heap.size w wc))
        case first =>
          have H := HC21.out
          clear HC21
          by_cases c25 : a0_0 < (wrap64 (a1))
          · rw [if_pos c25] at H
            have c25b0 : decide (a0_0 < (wrap64 (a1))) = true := decide_eq_true c25
            clear c25
            (first | rw [c25b0] | (simp only [i64_w, i32_w]; rw [c25b0]) | skip)
            by_cases c26 : 0 ≤ a0_0
            · rw [if_pos c26] at H
              have c26b0 : decide (0 ≤ a0_0) = true := decide_eq_true c26
              clear c26
              by_cases c27 : a0_0 < (l2.length : Int)
              · rw [if_pos c27] at H
                have c27b0 : decide (a0_0 < (l2.length : Int)) = true := decide_eq_true c27
                clear c27
                have H' := Aside0.mk H
                clear H
                have hcz28_0 : w23.cell? ⟨gb169, 0, none⟩ = some (.int .i64 a0_0) := (blk_cell BK169.out 0).trans rfl
                have hcz28_1 : w23.cell? ⟨gb169, 1, none⟩ = some (.int .i64 a0_1) := (blk_cell BK169.out 1).trans rfl
                have hfz28_0 := blk_frozen BK169.out 0
                have hfz28_1 := blk_frozen BK169.out 1
                have p173 : 0 ≤ (a0_0 : Int) := of_decide_eq_true (by first | (with_reducible assumption) | assumption)
                have q173 : a0_0 < (l2.length : Int) := of_decide_eq_true (by first | (with_reducible assumption) | assumption)
                obtain ⟨ad173, e173, hx173_0⟩ := Kd.at_int HR2.out a0_0 p173 q173
                cases e173
                replace hx173_0 := (HB.out.cell (World.block_lt_of_cell? w _ hx173_0)).trans hx173_0
                replace p173 := eq_true p173
                replace q173 := eq_true q173
                go_wp2
                go_meet
                case rel => exact ⟨_, (rd l2 a0_0), (by first | rfl | (simp; done) | (simp [*]; done)), H', ⟨by have := HJ3.out; first | omega | exact Nat.le_refl _⟩, ⟨by (with_reducible repeat (first | refine blk_drewN ?_ _ | refine blk_drew ?_ | refine blk_alloc ?_ _)); exact BK169.out⟩, ⟨by repeat (first | (with_reducible first | exact HB.out | apply below_alloc | apply pw_below_drewN | apply below_drew1 | refine below_set ?_ GE169.out) | exact HB.out)⟩⟩
              · rw [if_neg c27] at H
                exact absurd H (by simp)
            · rw [if_neg c26] at H
              exact absurd H (by simp)
          · rw [if_neg c25] at H
            have c25b0 : decide (a0_0 < (wrap64 (a1))) = false := decide_eq_false c25
            clear c25
            (first | rw [c25b0] | (simp only [i64_w, i32_w]; rw [c25b0]) | skip)
            have H' := Aside0.mk H
            clear H
            go_wp2
            go_meet
            case rel => exact ⟨_, (0), (by first | rfl | (simp; done) | (simp [*]; done)), H', ⟨by have := HJ3.out; first | omega | exact Nat.le_refl _⟩, ⟨by (with_reducible repeat (first | refine blk_drewN ?_ _ | refine blk_drew ?_ | refine blk_alloc ?_ _)); exact BK169.out⟩, ⟨by repeat (first | (with_reducible first | exact HB.out | apply below_alloc | apply pw_below_drewN | apply below_drew1 | refine below_set ?_ GE169.out) | exact HB.out)⟩⟩
        case rest =>
          clear HC21
          try clear c1
          try clear p1
          try clear q1
          try clear hx1
          try clear c2
          try clear p2
          try clear c3
          try clear p6
          try clear c7
          try clear c8
          try clear c8b0
          try clear c11
          try clear c11b0
          try clear c12
          try clear c13
          try clear c17
          try clear p17
          try clear q17
          try clear hx17
          try clear c25
          try clear c25b0
          try clear c26
          try clear c26b0
          try clear c27
          try clear c27b0
          try clear hcz10_0
          try clear hcz10_1
          try clear hcz13_0
          try clear hcz13_1
          try clear hcz15_0
          try clear hcz15_1
          try clear hcz22_0
          try clear hcz22_1
          try clear hcz24_0
          try clear hcz24_1
          try clear hcz28_0
          try clear hcz28_1
          try clear hfz10_0
          try clear hfz10_1
          try clear hfz13_0
          try clear hfz13_1
          try clear hfz15_0
          try clear hfz15_1
          try clear hfz22_0
          try clear hfz22_1
          try clear hfz24_0
          try clear hfz24_1
          try clear hfz28_0
          try clear hfz28_1
          try clear hx173_0
          try clear p173
          try clear p2
          try clear p6
          try clear q173
          obtain ⟨kq, x9_20, rfl, HA, HJ20, BK169, HB⟩ := hcut
          cases kq with
          | zero => exact absurd HA.out (by simp [regcertlaw15_EdgeInitial.j1])
          | succ kj20 =>
            have H := HA.out
            clear HA
            simp only [regcertlaw15_EdgeInitial.j1] at H
            have HC29 := Aside0.mk H
            clear H
            go_upto_region 9 with (fail)
            go_cut [57] (fun v57 wc => ∃ (kq : Nat) (x57_28 : Bool), v57 = .bool x57_28 ∧ Aside0 (regcertlaw15_EdgeInitial.j2 kq l2 (wrap64 (a1)) t172 x9_20 0 x57_28 a0_0 a0_1 = some r) ∧ Aside0 (kq ≤ kj20) ∧ Aside0 (wc.heap[gb169]? = some (.cells #[.int .i64 a0_0, .int .i64 a0_1] 24 (0, 0))) ∧ Aside0 (Below w.heap.size w wc))
            case first =>
              have H := HC29.out
              clear HC29
              by_cases c30 : (Int.tmod a0_1 2) = 1
              · rw [if_pos c30] at H
                have c30b0 : ((Int.tmod a0_1 2) == 1) = true := beq_iff_eq.mpr c30
                have c30b1 : ((Int.tmod a0_1 2) != 1) = false := bne_eq_false_iff_eq.mpr c30
                clear c30
                (first | rw [c30b0] | (simp only [i64_w, i32_w]; rw [c30b0]) | skip)
                have H' := Aside0.mk H
                clear H
                have hcz31_0 : wc.cell? ⟨gb169, 0, none⟩ = some (.int .i64 a0_0) := (blk_cell BK169.out 0).trans rfl
                have hcz31_1 : wc.cell? ⟨gb169, 1, none⟩ = some (.int .i64 a0_1) := (blk_cell BK169.out 1).trans rfl
                have hfz31_0 := blk_frozen BK169.out 0
                have hfz31_1 := blk_frozen BK169.out 1
                go_wp2
                go_meet
                case rel => exact ⟨_, (decide ((wrap64 (Int.tdiv a0_1 2)) < (wrap64 (a1)))), (by first | rfl | (simp; done) | (simp [*]; done)), H', ⟨by have := HJ3.out; have := HJ20.out; first | omega | exact Nat.le_refl _⟩, ⟨by (with_reducible repeat (first | refine blk_drewN ?_ _ | refine blk_drew ?_ | refine blk_alloc ?_ _)); exact BK169.out⟩, ⟨by repeat (first | (with_reducible first | exact HB.out | apply below_alloc | apply pw_below_drewN | apply below_drew1 | refine below_set ?_ GE169.out) | exact HB.out)⟩⟩
              · rw [if_neg c30] at H
                have c30b0 : ((Int.tmod a0_1 2) == 1) = false := beq_eq_false_iff_ne.mpr c30
                have c30b1 : ((Int.tmod a0_1 2) != 1) = true := bne_iff_ne.mpr c30
                (first | rw [c30b0] | (simp only [i64_w, i32_w]; rw [c30b0]) | skip)
                have H' := Aside0.mk H
                clear H
                have hcz32_0 : wc.cell? ⟨gb169, 0, none⟩ = some (.int .i64 a0_0) := (blk_cell BK169.out 0).trans rfl
                have hcz32_1 : wc.cell? ⟨gb169, 1, none⟩ = some (.int .i64 a0_1) := (blk_cell BK169.out 1).trans rfl
                have hfz32_0 := blk_frozen BK169.out 0
                have hfz32_1 := blk_frozen BK169.out 1
                go_wp2
                go_meet
                case rel => exact ⟨_, (false), (by first | rfl | (simp; done) | (simp [*]; done)), H', ⟨by have := HJ3.out; have := HJ20.out; first | omega | exact Nat.le_refl _⟩, ⟨by (with_reducible repeat (first | refine blk_drewN ?_ _ | refine blk_drew ?_ | refine blk_alloc ?_ _)); exact BK169.out⟩, ⟨by repeat (first | (with_reducible first | exact HB.out | apply below_alloc | apply pw_below_drewN | apply below_drew1 | refine below_set ?_ GE169.out) | exact HB.out)⟩⟩
            case rest =>
              clear HC29
              try clear c1
              try clear p1
              try clear q1
              try clear hx1
              try clear c2
              try clear p2
              try clear c3
              try clear p6
              try clear c7
              try clear c8
              try clear c8b0
              try clear c11
              try clear c11b0
              try clear c12
              try clear c13
              try clear c17
              try clear p17
              try clear q17
              try clear hx17
              try clear c25
              try clear c25b0
              try clear c26
              try clear c26b0
              try clear c27
              try clear c27b0
              try clear c30
              try clear c30b0
              try clear c30b1
              try clear hcz10_0
              try clear hcz10_1
              try clear hcz13_0
              try clear hcz13_1
              try clear hcz15_0
              try clear hcz15_1
              try clear hcz22_0
              try clear hcz22_1
              try clear hcz24_0
              try clear hcz24_1
              try clear hcz28_0
              try clear hcz28_1
              try clear hcz31_0
              try clear hcz31_1
              try clear hcz32_0
              try clear hcz32_1
              try clear hfz10_0
              try clear hfz10_1
              try clear hfz13_0
              try clear hfz13_1
              try clear hfz15_0
              try clear hfz15_1
              try clear hfz22_0
              try clear hfz22_1
              try clear hfz24_0
              try clear hfz24_1
              try clear hfz28_0
              try clear hfz28_1
              try clear hfz31_0
              try clear hfz31_1
              try clear hfz32_0
              try clear hfz32_1
              try clear hx173_0
              try clear p1
              try clear p17
              try clear p173
              try clear p2
              try clear p6
              try clear q1
              try clear q17
              try clear q173
              obtain ⟨kq, x57_28, rfl, HA, HJ28, BK169, HB⟩ := hcut
              cases kq with
              | zero => exact absurd HA.out (by simp [regcertlaw15_EdgeInitial.j2])
              | succ kj28 =>
                have H := HA.out
                clear HA
                simp only [regcertlaw15_EdgeInitial.j2] at H
                have HC33 := Aside0.mk H
                clear H
                go_upto_if 57 with (fail)
                go_cut [10] (fun v10 wc => ∃ (kq : Nat) (x10_32 : Int), v10 = .int .i64 x10_32 ∧ Aside0 (regcertlaw15_EdgeInitial.j3 kq (wrap64 (a1)) t172 x9_20 x10_32 a0_0 a0_1 = some r) ∧ Aside0 (kq ≤ kj28) ∧ Aside0 (wc.heap[gb169]? = some (.cells #[.int .i64 a0_0, .int .i64 a0_1] 24 (0, 0))) ∧ Aside0 (Below w.heap.size w wc))
                case first =>
                  have H := HC33.out
                  clear HC33
                  by_cases c34 : x57_28 = true
                  · subst c34
                    have H1 : (if 0 ≤ (wrap64 (Int.tdiv a0_1 2)) then (if (wrap64 (Int.tdiv a0_1 2)) < (l2.length : Int) then (regcertlaw15_EdgeInitial.j3 kj28 (wrap64 (a1)) t172 x9_20 (rd l2 (wrap64 (Int.tdiv a0_1 2))) a0_0 a0_1) else (none)) else (none)) = some r := by rw [if_pos rfl] at H; exact H
                    clear H
                    have H := H1
                    clear H1
                    obtain ⟨ji35, hji35⟩ : ∃ j_ : Int, (wrap64 (Int.tdiv a0_1 2)) = j_ := ⟨_, rfl⟩
                    replace H : (if 0 ≤ (ji35) then (if (ji35) < (l2.length : Int) then (regcertlaw15_EdgeInitial.j3 kj28 (wrap64 (a1)) t172 x9_20 (rd l2 (ji35)) a0_0 a0_1) else (none)) else (none)) = some r := by first | (rw [hji35] at H; exact H) | (simp only [hji35] at H ⊢; exact H)
                    have hji35w : (IntKind.i64.wrap (Int.tdiv a0_1 2)) = ji35 := (i64_w _).trans hji35
                    by_cases c36 : 0 ≤ (ji35)
                    · rw [if_pos c36] at H
                      have c36b0 : decide (0 ≤ (ji35)) = true := decide_eq_true c36
                      clear c36
                      (first | rw [c36b0] | (simp only [i64_w, i32_w]; rw [c36b0]) | skip)
                      by_cases c37 : (ji35) < (l2.length : Int)
                      · rw [if_pos c37] at H
                        have c37b0 : decide ((ji35) < (l2.length : Int)) = true := decide_eq_true c37
                        clear c37
                        have H' := Aside0.mk H
                        clear H
                        have hcz38_0 : wc.cell? ⟨gb169, 0, none⟩ = some (.int .i64 a0_0) := (blk_cell BK169.out 0).trans rfl
                        have hcz38_1 : wc.cell? ⟨gb169, 1, none⟩ = some (.int .i64 a0_1) := (blk_cell BK169.out 1).trans rfl
                        have hfz38_0 := blk_frozen BK169.out 0
                        have hfz38_1 := blk_frozen BK169.out 1
                        have p174 : 0 ≤ ((ji35) : Int) := of_decide_eq_true (by first | (with_reducible assumption) | assumption)
                        have q174 : (ji35) < (l2.length : Int) := of_decide_eq_true (by first | (with_reducible assumption) | assumption)
                        obtain ⟨ad174, e174, hx174_0⟩ := Kd.at_int HR2.out (ji35) p174 q174
                        cases e174
                        replace hx174_0 := (HB.out.cell (World.block_lt_of_cell? w _ hx174_0)).trans hx174_0
                        replace p174 := eq_true p174
                        replace q174 := eq_true q174
                        go_wp2
                        go_meet
                        case rel => exact ⟨_, (rd l2 (ji35)), (by first | rfl | (simp; done) | (simp only [← hji35] <;> (first | rfl | simp)) | (simp [*]; done)), H', ⟨by have := HJ3.out; have := HJ20.out; have := HJ28.out; first | omega | exact Nat.le_refl _⟩, ⟨by (with_reducible repeat (first | refine blk_drewN ?_ _ | refine blk_drew ?_ | refine blk_alloc ?_ _)); exact BK169.out⟩, ⟨by repeat (first | (with_reducible first | exact HB.out | apply below_alloc | apply pw_below_drewN | apply below_drew1 | refine below_set ?_ GE169.out) | exact HB.out)⟩⟩
                      · rw [if_neg c37] at H
                        exact absurd H (by simp)
                    · rw [if_neg c36] at H
                      exact absurd H (by simp)
                  · replace c34 := Bool.eq_false_iff.mpr c34
                    subst c34
                    have H1 : (regcertlaw15_EdgeInitial.j3 kj28 (wrap64 (a1)) t172 x9_20 0 a0_0 a0_1) = some r := by rw [if_neg (show ¬ (false = true) by decide)] at H; exact H
                    clear H
                    have H := H1
                    clear H1
                    have H' := Aside0.mk H
                    clear H
                    go_wp2
                    go_meet
                    case rel => exact ⟨_, (0), (by first | rfl | (simp; done) | (simp [*]; done)), H', ⟨by have := HJ3.out; have := HJ20.out; have := HJ28.out; first | omega | exact Nat.le_refl _⟩, ⟨by (with_reducible repeat (first | refine blk_drewN ?_ _ | refine blk_drew ?_ | refine blk_alloc ?_ _)); exact BK169.out⟩, ⟨by repeat (first | (with_reducible first | exact HB.out | apply below_alloc | apply pw_below_drewN | apply below_drew1 | refine below_set ?_ GE169.out) | exact HB.out)⟩⟩
                case rest =>
                  clear HC33
                  try clear c1
                  try clear p1
                  try clear q1
                  try clear hx1
                  try clear c2
                  try clear p2
                  try clear c3
                  try clear p6
                  try clear c7
                  try clear c8
                  try clear c8b0
                  try clear c11
                  try clear c11b0
                  try clear c12
                  try clear c13
                  try clear c17
                  try clear p17
                  try clear q17
                  try clear hx17
                  try clear c25
                  try clear c25b0
                  try clear c26
                  try clear c26b0
                  try clear c27
                  try clear c27b0
                  try clear c30
                  try clear c30b0
                  try clear c30b1
                  try clear c34
                  try clear c36
                  try clear c36b0
                  try clear c37
                  try clear c37b0
                  try clear hcz10_0
                  try clear hcz10_1
                  try clear hcz13_0
                  try clear hcz13_1
                  try clear hcz15_0
                  try clear hcz15_1
                  try clear hcz22_0
                  try clear hcz22_1
                  try clear hcz24_0
                  try clear hcz24_1
                  try clear hcz28_0
                  try clear hcz28_1
                  try clear hcz31_0
                  try clear hcz31_1
                  try clear hcz32_0
                  try clear hcz32_1
                  try clear hcz38_0
                  try clear hcz38_1
                  try clear hfz10_0
                  try clear hfz10_1
                  try clear hfz13_0
                  try clear hfz13_1
                  try clear hfz15_0
                  try clear hfz15_1
                  try clear hfz22_0
                  try clear hfz22_1
                  try clear hfz24_0
                  try clear hfz24_1
                  try clear hfz28_0
                  try clear hfz28_1
                  try clear hfz31_0
                  try clear hfz31_1
                  try clear hfz32_0
                  try clear hfz32_1
                  try clear hfz38_0
                  try clear hfz38_1
                  try clear hx173_0
                  try clear hx174_0
                  try clear p1
                  try clear p17
                  try clear p173
                  try clear p174
                  try clear p2
                  try clear p6
                  try clear q1
                  try clear q17
                  try clear q173
                  try clear q174
                  obtain ⟨kq, x10_32, rfl, HA, HJ32, BK169, HB⟩ := hcut
                  cases kq with
                  | zero => exact absurd HA.out (by simp [regcertlaw15_EdgeInitial.j3])
                  | succ kj32 =>
                    have H := HA.out
                    clear HA
                    simp only [regcertlaw15_EdgeInitial.j3] at H
                    have HC39 := Aside0.mk H
                    clear H
                    go_upto_region 11 with (fail)
                    go_cut [69] (fun v69 wc => ∃ (kq : Nat) (x69_38 : Bool), v69 = .bool x69_38 ∧ Aside0 (regcertlaw15_EdgeInitial.j4 kq (wrap64 (a1)) t172 x69_38 a0_0 a0_1 = some r) ∧ Aside0 (kq ≤ kj32) ∧ Aside0 (wc.heap[gb169]? = some (.cells #[.int .i64 a0_0, .int .i64 a0_1] 24 (0, 0))) ∧ Aside0 (Below w.heap.size w wc))
                    case first =>
                      have H := HC39.out
                      clear HC39
                      by_cases c40 : t172 = true
                      · subst c40
                        have H1 : (regcertlaw15_EdgeInitial.j4 kj32 (wrap64 (a1)) true (x9_20 != x10_32) a0_0 a0_1) = some r := by rw [if_pos rfl] at H; exact H
                        clear H
                        have H := H1
                        clear H1
                        have H' := Aside0.mk H
                        clear H
                        go_wp2
                        go_meet
                        case rel => exact ⟨_, ((x9_20 != x10_32)), (by first | rfl | (simp; done) | (simp [*]; done)), H', ⟨by have := HJ3.out; have := HJ20.out; have := HJ28.out; have := HJ32.out; first | omega | exact Nat.le_refl _⟩, ⟨by (with_reducible repeat (first | refine blk_drewN ?_ _ | refine blk_drew ?_ | refine blk_alloc ?_ _)); exact BK169.out⟩, ⟨by repeat (first | (with_reducible first | exact HB.out | apply below_alloc | apply pw_below_drewN | apply below_drew1 | refine below_set ?_ GE169.out) | exact HB.out)⟩⟩
                      · replace c40 := Bool.eq_false_iff.mpr c40
                        subst c40
                        have H1 : (regcertlaw15_EdgeInitial.j4 kj32 (wrap64 (a1)) false false a0_0 a0_1) = some r := by rw [if_neg (show ¬ (false = true) by decide)] at H; exact H
                        clear H
                        have H := H1
                        clear H1
                        have H' := Aside0.mk H
                        clear H
                        go_wp2
                        go_meet
                        case rel => exact ⟨_, (false), (by first | rfl | (simp; done) | (simp [*]; done)), H', ⟨by have := HJ3.out; have := HJ20.out; have := HJ28.out; have := HJ32.out; first | omega | exact Nat.le_refl _⟩, ⟨by (with_reducible repeat (first | refine blk_drewN ?_ _ | refine blk_drew ?_ | refine blk_alloc ?_ _)); exact BK169.out⟩, ⟨by repeat (first | (with_reducible first | exact HB.out | apply below_alloc | apply pw_below_drewN | apply below_drew1 | refine below_set ?_ GE169.out) | exact HB.out)⟩⟩
                    case rest =>
                      clear HC39
                      try clear c1
                      try clear p1
                      try clear q1
                      try clear hx1
                      try clear c2
                      try clear p2
                      try clear c3
                      try clear c4
                      try clear p6
                      try clear c7
                      try clear c8
                      try clear c8b0
                      try clear c11
                      try clear c11b0
                      try clear c12
                      try clear c13
                      try clear c17
                      try clear p17
                      try clear q17
                      try clear hx17
                      try clear c25
                      try clear c25b0
                      try clear c26
                      try clear c26b0
                      try clear c27
                      try clear c27b0
                      try clear c30
                      try clear c30b0
                      try clear c30b1
                      try clear c34
                      try clear c36
                      try clear c36b0
                      try clear c37
                      try clear c37b0
                      try clear c40
                      try clear hcz10_0
                      try clear hcz10_1
                      try clear hcz13_0
                      try clear hcz13_1
                      try clear hcz15_0
                      try clear hcz15_1
                      try clear hcz22_0
                      try clear hcz22_1
                      try clear hcz24_0
                      try clear hcz24_1
                      try clear hcz28_0
                      try clear hcz28_1
                      try clear hcz31_0
                      try clear hcz31_1
                      try clear hcz32_0
                      try clear hcz32_1
                      try clear hcz38_0
                      try clear hcz38_1
                      try clear hfz10_0
                      try clear hfz10_1
                      try clear hfz13_0
                      try clear hfz13_1
                      try clear hfz15_0
                      try clear hfz15_1
                      try clear hfz22_0
                      try clear hfz22_1
                      try clear hfz24_0
                      try clear hfz24_1
                      try clear hfz28_0
                      try clear hfz28_1
                      try clear hfz31_0
                      try clear hfz31_1
                      try clear hfz32_0
                      try clear hfz32_1
                      try clear hfz38_0
                      try clear hfz38_1
                      try clear hx173_0
                      try clear hx174_0
                      try clear p1
                      try clear p17
                      try clear p173
                      try clear p174
                      try clear p2
                      try clear p6
                      try clear q1
                      try clear q17
                      try clear q173
                      try clear q174
                      obtain ⟨kq, x69_38, rfl, HA, HJ38, BK169, HB⟩ := hcut
                      cases kq with
                      | zero => exact absurd HA.out (by simp [regcertlaw15_EdgeInitial.j4])
                      | succ kj38 =>
                        have H := HA.out
                        clear HA
                        simp only [regcertlaw15_EdgeInitial.j4] at H
                        by_cases c41 : x69_38 = true
                        · subst c41
                          have H1 : (none) = some r := by rw [if_pos rfl] at H; exact H
                          clear H
                          have H := H1
                          clear H1
                          exact absurd H (by simp)
                        · replace c41 := Bool.eq_false_iff.mpr c41
                          subst c41
                          have H1 : (if a0_0 < (wrap64 (a1)) then (if (Int.tmod a0_1 2) = 1 then (if (wrap64 (Int.tdiv a0_1 2)) < (wrap64 (a1)) then (some (t172 == ((wrap64 (a0_0 + 1)) == (wrap64 ((wrap64 (Int.tdiv a0_1 2)) + 1))))) else (some (t172 == ((wrap64 (a0_0 + 1)) == 0)))) else (some (t172 == ((wrap64 (a0_0 + 1)) == 0)))) else (if (Int.tmod a0_1 2) = 1 then (if (wrap64 (Int.tdiv a0_1 2)) < (wrap64 (a1)) then (some (t172 == (0 == (wrap64 ((wrap64 (Int.tdiv a0_1 2)) + 1))))) else (some (t172 == (0 == 0)))) else (some (t172 == (0 == 0))))) = some r := by rw [if_neg (show ¬ (false = true) by decide)] at H; exact H
                          clear H
                          have H := H1
                          clear H1
                          by_cases c42 : a0_0 < (wrap64 (a1))
                          · rw [if_pos c42] at H
                            have c42b0 : decide (a0_0 < (wrap64 (a1))) = true := decide_eq_true c42
                            clear c42
                            by_cases c43 : (Int.tmod a0_1 2) = 1
                            · rw [if_pos c43] at H
                              have c43b0 : ((Int.tmod a0_1 2) == 1) = true := beq_iff_eq.mpr c43
                              have c43b1 : ((Int.tmod a0_1 2) != 1) = false := bne_eq_false_iff_eq.mpr c43
                              clear c43
                              by_cases c44 : (wrap64 (Int.tdiv a0_1 2)) < (wrap64 (a1))
                              · rw [if_pos c44] at H
                                have c44b0 : decide ((wrap64 (Int.tdiv a0_1 2)) < (wrap64 (a1))) = true := decide_eq_true c44
                                clear c44
                                obtain rfl := Option.some.inj H
                                have hcz45_0 : wc.cell? ⟨gb169, 0, none⟩ = some (.int .i64 a0_0) := (blk_cell BK169.out 0).trans rfl
                                have hcz45_1 : wc.cell? ⟨gb169, 1, none⟩ = some (.int .i64 a0_1) := (blk_cell BK169.out 1).trans rfl
                                have hfz45_0 := blk_frozen BK169.out 0
                                have hfz45_1 := blk_frozen BK169.out 1
                                go_wp2
                                go_ret
                                exact ⟨by first | rfl | (simp [errW_none, errW_some] <;> rfl) | (simp [*, errW_none, errW_some] <;> rfl), by repeat (first | (with_reducible first | exact HB.out | apply below_alloc | apply pw_below_drewN | apply below_drew1 | refine below_set ?_ GE169.out) | exact HB.out)⟩
                              · rw [if_neg c44] at H
                                have c44b0 : decide ((wrap64 (Int.tdiv a0_1 2)) < (wrap64 (a1))) = false := decide_eq_false c44
                                clear c44
                                obtain rfl := Option.some.inj H
                                have hcz46_0 : wc.cell? ⟨gb169, 0, none⟩ = some (.int .i64 a0_0) := (blk_cell BK169.out 0).trans rfl
                                have hcz46_1 : wc.cell? ⟨gb169, 1, none⟩ = some (.int .i64 a0_1) := (blk_cell BK169.out 1).trans rfl
                                have hfz46_0 := blk_frozen BK169.out 0
                                have hfz46_1 := blk_frozen BK169.out 1
                                go_wp2
                                go_ret
                                exact ⟨by first | rfl | (simp [errW_none, errW_some] <;> rfl) | (simp [*, errW_none, errW_some] <;> rfl), by repeat (first | (with_reducible first | exact HB.out | apply below_alloc | apply pw_below_drewN | apply below_drew1 | refine below_set ?_ GE169.out) | exact HB.out)⟩
                            · rw [if_neg c43] at H
                              have c43b0 : ((Int.tmod a0_1 2) == 1) = false := beq_eq_false_iff_ne.mpr c43
                              have c43b1 : ((Int.tmod a0_1 2) != 1) = true := bne_iff_ne.mpr c43
                              obtain rfl := Option.some.inj H
                              have hcz47_0 : wc.cell? ⟨gb169, 0, none⟩ = some (.int .i64 a0_0) := (blk_cell BK169.out 0).trans rfl
                              have hcz47_1 : wc.cell? ⟨gb169, 1, none⟩ = some (.int .i64 a0_1) := (blk_cell BK169.out 1).trans rfl
                              have hfz47_0 := blk_frozen BK169.out 0
                              have hfz47_1 := blk_frozen BK169.out 1
                              go_wp2
                              go_ret
                              exact ⟨by first | rfl | (simp [errW_none, errW_some] <;> rfl) | (simp [*, errW_none, errW_some] <;> rfl), by repeat (first | (with_reducible first | exact HB.out | apply below_alloc | apply pw_below_drewN | apply below_drew1 | refine below_set ?_ GE169.out) | exact HB.out)⟩
                          · rw [if_neg c42] at H
                            have c42b0 : decide (a0_0 < (wrap64 (a1))) = false := decide_eq_false c42
                            clear c42
                            by_cases c48 : (Int.tmod a0_1 2) = 1
                            · rw [if_pos c48] at H
                              have c48b0 : ((Int.tmod a0_1 2) == 1) = true := beq_iff_eq.mpr c48
                              have c48b1 : ((Int.tmod a0_1 2) != 1) = false := bne_eq_false_iff_eq.mpr c48
                              clear c48
                              by_cases c49 : (wrap64 (Int.tdiv a0_1 2)) < (wrap64 (a1))
                              · rw [if_pos c49] at H
                                have c49b0 : decide ((wrap64 (Int.tdiv a0_1 2)) < (wrap64 (a1))) = true := decide_eq_true c49
                                clear c49
                                obtain rfl := Option.some.inj H
                                have hcz50_0 : wc.cell? ⟨gb169, 0, none⟩ = some (.int .i64 a0_0) := (blk_cell BK169.out 0).trans rfl
                                have hcz50_1 : wc.cell? ⟨gb169, 1, none⟩ = some (.int .i64 a0_1) := (blk_cell BK169.out 1).trans rfl
                                have hfz50_0 := blk_frozen BK169.out 0
                                have hfz50_1 := blk_frozen BK169.out 1
                                go_wp2
                                go_ret
                                exact ⟨by first | rfl | (simp [errW_none, errW_some] <;> rfl) | (simp [*, errW_none, errW_some] <;> rfl), by repeat (first | (with_reducible first | exact HB.out | apply below_alloc | apply pw_below_drewN | apply below_drew1 | refine below_set ?_ GE169.out) | exact HB.out)⟩
                              · rw [if_neg c49] at H
                                have c49b0 : decide ((wrap64 (Int.tdiv a0_1 2)) < (wrap64 (a1))) = false := decide_eq_false c49
                                clear c49
                                obtain rfl := Option.some.inj H
                                have hcz51_0 : wc.cell? ⟨gb169, 0, none⟩ = some (.int .i64 a0_0) := (blk_cell BK169.out 0).trans rfl
                                have hcz51_1 : wc.cell? ⟨gb169, 1, none⟩ = some (.int .i64 a0_1) := (blk_cell BK169.out 1).trans rfl
                                have hfz51_0 := blk_frozen BK169.out 0
                                have hfz51_1 := blk_frozen BK169.out 1
                                go_wp2
                                go_ret
                                exact ⟨by first | rfl | (simp [errW_none, errW_some] <;> rfl) | (simp [*, errW_none, errW_some] <;> rfl), by repeat (first | (with_reducible first | exact HB.out | apply below_alloc | apply pw_below_drewN | apply below_drew1 | refine below_set ?_ GE169.out) | exact HB.out)⟩
                            · rw [if_neg c48] at H
                              have c48b0 : ((Int.tmod a0_1 2) == 1) = false := beq_eq_false_iff_ne.mpr c48
                              have c48b1 : ((Int.tmod a0_1 2) != 1) = true := bne_iff_ne.mpr c48
                              obtain rfl := Option.some.inj H
                              have hcz52_0 : wc.cell? ⟨gb169, 0, none⟩ = some (.int .i64 a0_0) := (blk_cell BK169.out 0).trans rfl
                              have hcz52_1 : wc.cell? ⟨gb169, 1, none⟩ = some (.int .i64 a0_1) := (blk_cell BK169.out 1).trans rfl
                              have hfz52_0 := blk_frozen BK169.out 0
                              have hfz52_1 := blk_frozen BK169.out 1
                              go_wp2
                              go_ret
                              exact ⟨by first | rfl | (simp [errW_none, errW_some] <;> rfl) | (simp [*, errW_none, errW_some] <;> rfl), by repeat (first | (with_reducible first | exact HB.out | apply below_alloc | apply pw_below_drewN | apply below_drew1 | refine below_set ?_ GE169.out) | exact HB.out)⟩
end Go.Proofs.Ytndbpljldmnkcaa.PEdgeInitial
