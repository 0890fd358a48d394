/- A function is accepted exactly if its counts are valid, all its instructions and terminators are, and no run of moves is longer than MaxMoves. No condition. -/
import Derived.Test.YtihnbkoeaaepiaaZMachineCheck21
import Derived.Test.YtihnbkoeaaepiaaZMachineCheck22
import Derived.Test.YtihnbkoeaaepiaaZMachineCheck24
namespace Go.Proofs.Ytihnbkoeaaepiaa.PMachineCheck
open Go.RowKit Go.Proofs.YtihnbkoeaaepiaaW.PrintWords Go.Proofs.YtihnbkoeaaepiaaW.PrintLast Go.Proofs.YtihnbkoeaaepiaaW.PrintMore
attribute [local go_sem] max2_int min2_int max_two min_two max_three min_three max_four min_four   
set_option linter.unusedVariables false
set_option linter.unusedSimpArgs false
mutual
def machine_Check.j0 : Nat → Bool → Int → Int → Int → List (S74) → Option (Int)
  | 0, _, _, _, _, _ => none
  | k + 1, x6, x162000, x162001, x162002, x162003 => if x6 = true then (some 10) else (if x162001 < 0 then (some 9) else (if x162002 > 1048576 then (machine_Check.j1 k true x162000 x162001 x162002 x162003) else (machine_Check.j1 k (decide (x162001 > 1048576)) x162000 x162001 x162002 x162003)))
def machine_Check.j1 : Nat → Bool → Int → Int → Int → List (S74) → Option (Int)
  | 0, _, _, _, _, _ => none
  | k + 1, x21, x162000, x162001, x162002, x162003 => if x21 = true then (some 6) else (if (x162003.length : Int) = 0 then (some 14) else (if (x162003.length : Int) > 1048576 then (some 6) else ((machine_Code.f k x162000 x162001 x162002 x162003).bind fun t162 => (if t162 > 1048576 then (some 6) else (machine_Check.l0 k x162003 (x162003.length : Int) 0 x162000 x162001 x162002 x162003)))))
def machine_Check.l0 : Nat → List (S74) → Int → Int → Int → Int → Int → List (S74) → Option (Int)
  | 0, _, _, _, _, _, _, _ => none
  | k + 1, x46, x47, x48, x162000, x162001, x162002, x162003 => if x48 < x47 then (if 0 ≤ x48 then (if x48 < (x46.length : Int) then ((machine_block.f k x162000 x162001 x162002 x162003 ((rd_T74 x46 x48).f0) ((rd_T74 x46 x48).f1.f0) ((rd_T74 x46 x48).f1.f1) ((rd_T74 x46 x48).f1.f2) ((rd_T74 x46 x48).f1.f3)).bind fun t165 => (if t165 = 0 then (machine_Check.l0 k x46 x47 (wrap64 (x48 + 1)) x162000 x162001 x162002 x162003) else (some t165))) else (none)) else (none)) else (some 0)
end
def machine_Check.f (k : Nat) (a0_0 : Int) (a0_1 : Int) (a0_2 : Int) (l0_3 : List (S74)) : Option (Int) := if a0_0 < 0 then (machine_Check.j0 k true a0_0 a0_1 a0_2 l0_3) else (machine_Check.j0 k (decide (a0_0 > a0_2)) a0_0 a0_1 a0_2 l0_3)
theorem machine_Check.mono_l : ∀ k, (∀ y0 y1 y2 y3 y4, LeO (machine_Check.j0 k y0 y1 y2 y3 y4) (machine_Check.j0 (k + 1) y0 y1 y2 y3 y4)) ∧ (∀ y0 y1 y2 y3 y4, LeO (machine_Check.j1 k y0 y1 y2 y3 y4) (machine_Check.j1 (k + 1) y0 y1 y2 y3 y4)) ∧ (∀ y0 y1 y2 y3 y4 y5 y6, LeO (machine_Check.l0 k y0 y1 y2 y3 y4 y5 y6) (machine_Check.l0 (k + 1) y0 y1 y2 y3 y4 y5 y6))
  | 0 => ⟨fun _ _ _ _ _ r h => by simp [machine_Check.j0] at h, fun _ _ _ _ _ r h => by simp [machine_Check.j1] at h, fun _ _ _ _ _ _ _ r h => by simp [machine_Check.l0] at h⟩
  | k + 1 => by
    obtain ⟨ih0, ih1, ih2⟩ := machine_Check.mono_l k
    refine ⟨?_, ?_, ?_⟩
    · intro y0 y1 y2 y3 y4
      unfold machine_Check.j0
      repeat' first
      | (with_reducible exact ih0 _ _ _ _ _)
      | (with_reducible exact ih1 _ _ _ _ _)
      | (with_reducible exact ih2 _ _ _ _ _ _ _)
      | (with_reducible exact machine_Code.mono _ _ _ _ _)
      | (with_reducible exact machine_block.mono _ _ _ _ _ _ _ _ _ _)
      | (with_reducible exact LeO.refl _)
      | (with_reducible exact LeO.none _)
      | (with_reducible refine LeO.ite ?_ ?_)
      | (with_reducible refine LeO.bind ?_ (fun _ => ?_))
      | exact ih0 _ _ _ _ _
      | exact ih1 _ _ _ _ _
      | exact ih2 _ _ _ _ _ _ _
      | exact machine_Code.mono _ _ _ _ _
      | exact machine_block.mono _ _ _ _ _ _ _ _ _ _
      | exact LeO.none _
      | refine LeO.ite ?_ ?_
      | refine LeO.bind ?_ (fun _ => ?_)
    · intro y0 y1 y2 y3 y4
      unfold machine_Check.j1
      repeat' first
      | (with_reducible exact ih0 _ _ _ _ _)
      | (with_reducible exact ih1 _ _ _ _ _)
      | (with_reducible exact ih2 _ _ _ _ _ _ _)
      | (with_reducible exact machine_Code.mono _ _ _ _ _)
      | (with_reducible exact machine_block.mono _ _ _ _ _ _ _ _ _ _)
      | (with_reducible exact LeO.refl _)
      | (with_reducible exact LeO.none _)
      | (with_reducible refine LeO.ite ?_ ?_)
      | (with_reducible refine LeO.bind ?_ (fun _ => ?_))
      | exact ih0 _ _ _ _ _
      | exact ih1 _ _ _ _ _
      | exact ih2 _ _ _ _ _ _ _
      | exact machine_Code.mono _ _ _ _ _
      | exact machine_block.mono _ _ _ _ _ _ _ _ _ _
      | exact LeO.none _
      | refine LeO.ite ?_ ?_
      | refine LeO.bind ?_ (fun _ => ?_)
    · intro y0 y1 y2 y3 y4 y5 y6
      unfold machine_Check.l0
      repeat' first
      | (with_reducible exact ih0 _ _ _ _ _)
      | (with_reducible exact ih1 _ _ _ _ _)
      | (with_reducible exact ih2 _ _ _ _ _ _ _)
      | (with_reducible exact machine_Code.mono _ _ _ _ _)
      | (with_reducible exact machine_block.mono _ _ _ _ _ _ _ _ _ _)
      | (with_reducible exact LeO.refl _)
      | (with_reducible exact LeO.none _)
      | (with_reducible refine LeO.ite ?_ ?_)
      | (with_reducible refine LeO.bind ?_ (fun _ => ?_))
      | exact ih0 _ _ _ _ _
      | exact ih1 _ _ _ _ _
      | exact ih2 _ _ _ _ _ _ _
      | exact machine_Code.mono _ _ _ _ _
      | exact machine_block.mono _ _ _ _ _ _ _ _ _ _
      | exact LeO.none _
      | refine LeO.ite ?_ ?_
      | refine LeO.bind ?_ (fun _ => ?_)
theorem machine_Check.mono : ∀ a0 a1 a2 a3 k, LeO (machine_Check.f k a0 a1 a2 a3) (machine_Check.f (k + 1) a0 a1 a2 a3) := by
  intro a0 a1 a2 a3 k
  obtain ⟨ih0, ih1, ih2⟩ := machine_Check.mono_l k
  unfold machine_Check.f
  repeat' first
      | (with_reducible exact ih0 _ _ _ _ _)
      | (with_reducible exact ih1 _ _ _ _ _)
      | (with_reducible exact ih2 _ _ _ _ _ _ _)
      | (with_reducible exact machine_Code.mono _ _ _ _ _)
      | (with_reducible exact machine_block.mono _ _ _ _ _ _ _ _ _ _)
      | (with_reducible exact LeO.refl _)
      | (with_reducible exact LeO.none _)
      | (with_reducible refine LeO.ite ?_ ?_)
      | (with_reducible refine LeO.bind ?_ (fun _ => ?_))
      | exact ih0 _ _ _ _ _
      | exact ih1 _ _ _ _ _
      | exact ih2 _ _ _ _ _ _ _
      | exact machine_Code.mono _ _ _ _ _
      | exact machine_block.mono _ _ _ _ _ _ _ _ _ _
      | exact LeO.none _
      | refine LeO.ite ?_ ?_
      | refine LeO.bind ?_ (fun _ => ?_)
set_option maxHeartbeats 8000000 in
set_option maxRecDepth 100000 in
theorem machine_Check.calls (k : Nat) (a0_0 : Int) (a0_1 : Int) (a0_2 : Int) (A0_3 : Option Addr) (c0_3 : Nat) (l0_3 : List (S74)) (r : Int) (w : World) (hr0_3 : Kd.C k74 w A0_3 l0_3.length l0_3) (hc0_3 : l0_3.length ≤ c0_3) (h : machine_Check.f k a0_0 a0_1 a0_2 l0_3 = some r) :
    Calls Try.prog 36 #[.agg #[.int .i64 a0_0, .int .i64 a0_1, .int .i64 a0_2, .slice A0_3 l0_3.length c0_3]] w fun e w' => e = .returned (.int .i64 r) ∧ Below w.heap.size w w' := by
  have hu64 := Try.underlying64
  have hu74 := Try.underlying74
  have HR0_3 := Aside0.mk hr0_3
  have HC0_3 := Aside0.mk hc0_3
  clear hr0_3 hc0_3
  have HB := Aside0.mk (Below.refl w.heap.size w)
  have H : (if a0_0 < 0 then (machine_Check.j0 k true a0_0 a0_1 a0_2 l0_3) else (machine_Check.j0 k (decide (a0_0 > a0_2)) a0_0 a0_1 a0_2 l0_3)) = some r := h
  clear h
  have HC2 := Aside0.mk H
  clear H
  go_enter Try.func36, Try.ntmps36
  go_upto_region 1 with (first | ((with_reducible refine gate_dst (N := 1) rfl ?_); refine box_event ?hg (N := 1) ?hd (cs := #[.int .i64 a0_0, .int .i64 a0_1, .int .i64 a0_2, .slice A0_3 l0_3.length c0_3]) (t := 64) ?hr ?_; (case hd => rfl); (case hg => rfl); (case hr => first | (go_simp; done) | (go_simp; rfl)); intro gb161 hg w3 hbox hb; have n0_ := Aside0.mk (below_step (by repeat (first | (with_reducible first | exact HB.out | apply below_alloc | apply pw_below_drewN | apply below_drew1) | exact HB.out)) hb); have n1_ := Aside0.mk (hbox); have n2_ := Aside0.mk ((by rw [hg]; exact (below_size (by repeat (first | (with_reducible first | exact HB.out | apply below_alloc | apply pw_below_drewN | apply below_drew1) | exact HB.out))) : w.heap.size ≤ gb161)); have n3_ := Aside0.mk ((by rw [hg]; exact (below_size (by repeat (first | (with_reducible first | exact HB.out | apply below_alloc | apply pw_below_drewN | apply below_drew1) | exact HB.out))) : w.heap.size ≤ gb161)); clear HB; have HB := n0_; have BK161 := n1_; have GW161 := n2_; have GE161 := n3_; clear n0_ n1_ n2_ n3_; clear hb hbox hg))
  (try simp only [Act.put, List.setIfInBounds_toArray, List.set_cons_zero, List.set_cons_succ])
  go_cut [6] (fun v6 wc => ∃ (kq : Nat) (x6_1 : Bool), v6 = .bool x6_1 ∧ Aside0 (machine_Check.j0 kq x6_1 a0_0 a0_1 a0_2 l0_3 = some r) ∧ Aside0 (kq ≤ k) ∧ Aside0 (wc.heap[gb161]? = some (.cells #[.int .i64 a0_0, .int .i64 a0_1, .int .i64 a0_2, (.slice A0_3 l0_3.length c0_3)] 64 (0, 0))) ∧ Aside0 (Below w.heap.size w wc))
  case first =>
    have H := HC2.out
    clear HC2
    by_cases c4 : a0_0 < 0
    · rw [if_pos c4] at H
      have c4b0 : decide (a0_0 < 0) = true := decide_eq_true c4
      clear c4
      (first | rw [c4b0] | (simp only [i64_w, i32_w]; rw [c4b0]) | skip)
      have H' := Aside0.mk H
      clear H
      have hcz5_0 : w3.cell? ⟨gb161, 0, none⟩ = some (.int .i64 a0_0) := (blk_cell BK161.out 0).trans rfl
      have hcz5_1 : w3.cell? ⟨gb161, 1, none⟩ = some (.int .i64 a0_1) := (blk_cell BK161.out 1).trans rfl
      have hcz5_2 : w3.cell? ⟨gb161, 2, none⟩ = some (.int .i64 a0_2) := (blk_cell BK161.out 2).trans rfl
      have hcz5_3 : w3.cell? ⟨gb161, 3, none⟩ = some (.slice A0_3 l0_3.length c0_3) := (blk_cell BK161.out 3).trans rfl
      have hfz5_0 := blk_frozen BK161.out 0
      have hfz5_1 := blk_frozen BK161.out 1
      have hfz5_2 := blk_frozen BK161.out 2
      have hfz5_3 := blk_frozen BK161.out 3
      go_wp2
      go_meet
      case rel => exact ⟨_, (true), (by first | rfl | (simp; done) | (simp [*]; done)), H', ⟨by first | omega | exact Nat.le_refl _⟩, ⟨by (with_reducible repeat (first | refine blk_drewN ?_ _ | refine blk_drew ?_ | refine blk_alloc ?_ _)); exact BK161.out⟩, ⟨by repeat (first | (with_reducible first | exact HB.out | apply below_alloc | apply pw_below_drewN | apply below_drew1 | refine below_set ?_ GE161.out) | exact HB.out)⟩⟩
    · rw [if_neg c4] at H
      have c4b0 : decide (a0_0 < 0) = false := decide_eq_false c4
      clear c4
      (first | rw [c4b0] | (simp only [i64_w, i32_w]; rw [c4b0]) | skip)
      have H' := Aside0.mk H
      clear H
      have hcz6_0 : w3.cell? ⟨gb161, 0, none⟩ = some (.int .i64 a0_0) := (blk_cell BK161.out 0).trans rfl
      have hcz6_1 : w3.cell? ⟨gb161, 1, none⟩ = some (.int .i64 a0_1) := (blk_cell BK161.out 1).trans rfl
      have hcz6_2 : w3.cell? ⟨gb161, 2, none⟩ = some (.int .i64 a0_2) := (blk_cell BK161.out 2).trans rfl
      have hcz6_3 : w3.cell? ⟨gb161, 3, none⟩ = some (.slice A0_3 l0_3.length c0_3) := (blk_cell BK161.out 3).trans rfl
      have hfz6_0 := blk_frozen BK161.out 0
      have hfz6_1 := blk_frozen BK161.out 1
      have hfz6_2 := blk_frozen BK161.out 2
      have hfz6_3 := blk_frozen BK161.out 3
      go_wp2
      go_meet
      case rel => exact ⟨_, (decide (a0_0 > a0_2)), (by first | rfl | (simp; done) | (simp [*]; done)), H', ⟨by first | omega | exact Nat.le_refl _⟩, ⟨by (with_reducible repeat (first | refine blk_drewN ?_ _ | refine blk_drew ?_ | refine blk_alloc ?_ _)); exact BK161.out⟩, ⟨by repeat (first | (with_reducible first | exact HB.out | apply below_alloc | apply pw_below_drewN | apply below_drew1 | refine below_set ?_ GE161.out) | exact HB.out)⟩⟩
  case rest =>
    clear HC2
    try clear p2
    try clear c3
    try clear c4
    try clear c4b0
    try clear hcz5_0
    try clear hcz5_1
    try clear hcz5_2
    try clear hcz5_3
    try clear hcz6_0
    try clear hcz6_1
    try clear hcz6_2
    try clear hcz6_3
    try clear hfz5_0
    try clear hfz5_1
    try clear hfz5_2
    try clear hfz5_3
    try clear hfz6_0
    try clear hfz6_1
    try clear hfz6_2
    try clear hfz6_3
    obtain ⟨kq, x6_1, rfl, HA, HJ1, BK161, HB⟩ := hcut
    cases kq with
    | zero => exact absurd HA.out (by simp [machine_Check.j0])
    | succ kj1 =>
      have H := HA.out
      clear HA
      simp only [machine_Check.j0] at H
      by_cases c7 : x6_1 = true
      · subst c7
        have H1 : (some 10) = some r := by rw [if_pos rfl] at H; exact H
        clear H
        have H := H1
        clear H1
        obtain rfl := Option.some.inj H
        go_wp2
        go_ret
        exact ⟨by first | rfl | (simp [errW_none, errW_some] <;> rfl) | (simp [*, errW_none, errW_some] <;> rfl), by repeat (first | (with_reducible first | exact HB.out | apply below_alloc | apply pw_below_drewN | apply below_drew1 | refine below_set ?_ GE161.out) | exact HB.out)⟩
      · replace c7 := Bool.eq_false_iff.mpr c7
        subst c7
        have H1 : (if a0_1 < 0 then (some 9) else (if a0_2 > 1048576 then (machine_Check.j1 kj1 true a0_0 a0_1 a0_2 l0_3) else (machine_Check.j1 kj1 (decide (a0_1 > 1048576)) a0_0 a0_1 a0_2 l0_3))) = some r := by rw [if_neg (show ¬ (false = true) by decide)] at H; exact H
        clear H
        have H := H1
        clear H1
        by_cases c8 : a0_1 < 0
        · rw [if_pos c8] at H
          have c8b0 : decide (a0_1 < 0) = true := decide_eq_true c8
          clear c8
          obtain rfl := Option.some.inj H
          have hcz9_0 : wc.cell? ⟨gb161, 0, none⟩ = some (.int .i64 a0_0) := (blk_cell BK161.out 0).trans rfl
          have hcz9_1 : wc.cell? ⟨gb161, 1, none⟩ = some (.int .i64 a0_1) := (blk_cell BK161.out 1).trans rfl
          have hcz9_2 : wc.cell? ⟨gb161, 2, none⟩ = some (.int .i64 a0_2) := (blk_cell BK161.out 2).trans rfl
          have hcz9_3 : wc.cell? ⟨gb161, 3, none⟩ = some (.slice A0_3 l0_3.length c0_3) := (blk_cell BK161.out 3).trans rfl
          have hfz9_0 := blk_frozen BK161.out 0
          have hfz9_1 := blk_frozen BK161.out 1
          have hfz9_2 := blk_frozen BK161.out 2
          have hfz9_3 := blk_frozen BK161.out 3
          go_wp2
          go_ret
          exact ⟨by first | rfl | (simp [errW_none, errW_some] <;> rfl) | (simp [*, errW_none, errW_some] <;> rfl), by repeat (first | (with_reducible first | exact HB.out | apply below_alloc | apply pw_below_drewN | apply below_drew1 | refine below_set ?_ GE161.out) | exact HB.out)⟩
        · rw [if_neg c8] at H
          have c8b0 : decide (a0_1 < 0) = false := decide_eq_false c8
          clear c8
          have HC10 := Aside0.mk H
          clear H
          have hcz11_0 : wc.cell? ⟨gb161, 0, none⟩ = some (.int .i64 a0_0) := (blk_cell BK161.out 0).trans rfl
          have hcz11_1 : wc.cell? ⟨gb161, 1, none⟩ = some (.int .i64 a0_1) := (blk_cell BK161.out 1).trans rfl
          have hcz11_2 : wc.cell? ⟨gb161, 2, none⟩ = some (.int .i64 a0_2) := (blk_cell BK161.out 2).trans rfl
          have hcz11_3 : wc.cell? ⟨gb161, 3, none⟩ = some (.slice A0_3 l0_3.length c0_3) := (blk_cell BK161.out 3).trans rfl
          have hfz11_0 := blk_frozen BK161.out 0
          have hfz11_1 := blk_frozen BK161.out 1
          have hfz11_2 := blk_frozen BK161.out 2
          have hfz11_3 := blk_frozen BK161.out 3
          go_upto_region 5 with (fail)
          go_cut [21] (fun v21 wc => ∃ (kq : Nat) (x21_9 : Bool), v21 = .bool x21_9 ∧ Aside0 (machine_Check.j1 kq x21_9 a0_0 a0_1 a0_2 l0_3 = some r) ∧ Aside0 (kq ≤ kj1) ∧ Aside0 (wc.heap[gb161]? = some (.cells #[.int .i64 a0_0, .int .i64 a0_1, .int .i64 a0_2, (.slice A0_3 l0_3.length c0_3)] 64 (0, 0))) ∧ Aside0 (Below w.heap.size w wc))
          case first =>
            have H := HC10.out
            clear HC10
            by_cases c12 : a0_2 > 1048576
            · rw [if_pos c12] at H
              have c12b0 : decide (1048576 < a0_2) = true := decide_eq_true c12
              clear c12
              (first | rw [c12b0] | (simp only [i64_w, i32_w]; rw [c12b0]) | skip)
              have H' := Aside0.mk H
              clear H
              have hcz13_0 : wc.cell? ⟨gb161, 0, none⟩ = some (.int .i64 a0_0) := (blk_cell BK161.out 0).trans rfl
              have hcz13_1 : wc.cell? ⟨gb161, 1, none⟩ = some (.int .i64 a0_1) := (blk_cell BK161.out 1).trans rfl
              have hcz13_2 : wc.cell? ⟨gb161, 2, none⟩ = some (.int .i64 a0_2) := (blk_cell BK161.out 2).trans rfl
              have hcz13_3 : wc.cell? ⟨gb161, 3, none⟩ = some (.slice A0_3 l0_3.length c0_3) := (blk_cell BK161.out 3).trans rfl
              have hfz13_0 := blk_frozen BK161.out 0
              have hfz13_1 := blk_frozen BK161.out 1
              have hfz13_2 := blk_frozen BK161.out 2
              have hfz13_3 := blk_frozen BK161.out 3
              go_wp2
              go_meet
              case rel => exact ⟨_, (true), (by first | rfl | (simp; done) | (simp [*]; done)), H', ⟨by have := HJ1.out; first | omega | exact Nat.le_refl _⟩, ⟨by (with_reducible repeat (first | refine blk_drewN ?_ _ | refine blk_drew ?_ | refine blk_alloc ?_ _)); exact BK161.out⟩, ⟨by repeat (first | (with_reducible first | exact HB.out | apply below_alloc | apply pw_below_drewN | apply below_drew1 | refine below_set ?_ GE161.out) | exact HB.out)⟩⟩
            · rw [if_neg c12] at H
              have c12b0 : decide (1048576 < a0_2) = false := decide_eq_false c12
              clear c12
              (first | rw [c12b0] | (simp only [i64_w, i32_w]; rw [c12b0]) | skip)
              have H' := Aside0.mk H
              clear H
              have hcz14_0 : wc.cell? ⟨gb161, 0, none⟩ = some (.int .i64 a0_0) := (blk_cell BK161.out 0).trans rfl
              have hcz14_1 : wc.cell? ⟨gb161, 1, none⟩ = some (.int .i64 a0_1) := (blk_cell BK161.out 1).trans rfl
              have hcz14_2 : wc.cell? ⟨gb161, 2, none⟩ = some (.int .i64 a0_2) := (blk_cell BK161.out 2).trans rfl
              have hcz14_3 : wc.cell? ⟨gb161, 3, none⟩ = some (.slice A0_3 l0_3.length c0_3) := (blk_cell BK161.out 3).trans rfl
              have hfz14_0 := blk_frozen BK161.out 0
              have hfz14_1 := blk_frozen BK161.out 1
              have hfz14_2 := blk_frozen BK161.out 2
              have hfz14_3 := blk_frozen BK161.out 3
              go_wp2
              go_meet
              case rel => exact ⟨_, (decide (a0_1 > 1048576)), (by first | rfl | (simp; done) | (simp [*]; done)), H', ⟨by have := HJ1.out; first | omega | exact Nat.le_refl _⟩, ⟨by (with_reducible repeat (first | refine blk_drewN ?_ _ | refine blk_drew ?_ | refine blk_alloc ?_ _)); exact BK161.out⟩, ⟨by repeat (first | (with_reducible first | exact HB.out | apply below_alloc | apply pw_below_drewN | apply below_drew1 | refine below_set ?_ GE161.out) | exact HB.out)⟩⟩
          case rest =>
            clear HC10
            try clear c1
            try clear p2
            try clear c3
            try clear c4
            try clear c4b0
            try clear c7
            try clear c8
            try clear c8b0
            try clear c12
            try clear c12b0
            try clear hcz11_0
            try clear hcz11_1
            try clear hcz11_2
            try clear hcz11_3
            try clear hcz13_0
            try clear hcz13_1
            try clear hcz13_2
            try clear hcz13_3
            try clear hcz14_0
            try clear hcz14_1
            try clear hcz14_2
            try clear hcz14_3
            try clear hcz5_0
            try clear hcz5_1
            try clear hcz5_2
            try clear hcz5_3
            try clear hcz6_0
            try clear hcz6_1
            try clear hcz6_2
            try clear hcz6_3
            try clear hcz9_0
            try clear hcz9_1
            try clear hcz9_2
            try clear hcz9_3
            try clear hfz11_0
            try clear hfz11_1
            try clear hfz11_2
            try clear hfz11_3
            try clear hfz13_0
            try clear hfz13_1
            try clear hfz13_2
            try clear hfz13_3
            try clear hfz14_0
            try clear hfz14_1
            try clear hfz14_2
            try clear hfz14_3
            try clear hfz5_0
            try clear hfz5_1
            try clear hfz5_2
            try clear hfz5_3
            try clear hfz6_0
            try clear hfz6_1
            try clear hfz6_2
            try clear hfz6_3
            try clear hfz9_0
            try clear hfz9_1
            try clear hfz9_2
            try clear hfz9_3
            try clear p2
            obtain ⟨kq, x21_9, rfl, HA, HJ9, BK161, HB⟩ := hcut
            cases kq with
            | zero => exact absurd HA.out (by simp [machine_Check.j1])
            | succ kj9 =>
              have H := HA.out
              clear HA
              simp only [machine_Check.j1] at H
              by_cases c15 : x21_9 = true
              · subst c15
                have H1 : (some 6) = some r := by rw [if_pos rfl] at H; exact H
                clear H
                have H := H1
                clear H1
                obtain rfl := Option.some.inj H
                go_wp2
                go_ret
                exact ⟨by first | rfl | (simp [errW_none, errW_some] <;> rfl) | (simp [*, errW_none, errW_some] <;> rfl), by repeat (first | (with_reducible first | exact HB.out | apply below_alloc | apply pw_below_drewN | apply below_drew1 | refine below_set ?_ GE161.out) | exact HB.out)⟩
              · replace c15 := Bool.eq_false_iff.mpr c15
                subst c15
                have H1 : (if (l0_3.length : Int) = 0 then (some 14) else (if (l0_3.length : Int) > 1048576 then (some 6) else ((machine_Code.f kj9 a0_0 a0_1 a0_2 l0_3).bind fun t162 => (if t162 > 1048576 then (some 6) else (machine_Check.l0 kj9 l0_3 (l0_3.length : Int) 0 a0_0 a0_1 a0_2 l0_3))))) = some r := by rw [if_neg (show ¬ (false = true) by decide)] at H; exact H
                clear H
                have H := H1
                clear H1
                by_cases c16 : (l0_3.length : Int) = 0
                · rw [if_pos c16] at H
                  have c16b0 : ((l0_3.length : Int) == 0) = true := beq_iff_eq.mpr c16
                  have c16b1 : ((l0_3.length : Int) != 0) = false := bne_eq_false_iff_eq.mpr c16
                  clear c16
                  obtain rfl := Option.some.inj H
                  have hcz17_0 : wc.cell? ⟨gb161, 0, none⟩ = some (.int .i64 a0_0) := (blk_cell BK161.out 0).trans rfl
                  have hcz17_1 : wc.cell? ⟨gb161, 1, none⟩ = some (.int .i64 a0_1) := (blk_cell BK161.out 1).trans rfl
                  have hcz17_2 : wc.cell? ⟨gb161, 2, none⟩ = some (.int .i64 a0_2) := (blk_cell BK161.out 2).trans rfl
                  have hcz17_3 : wc.cell? ⟨gb161, 3, none⟩ = some (.slice A0_3 l0_3.length c0_3) := (blk_cell BK161.out 3).trans rfl
                  have hfz17_0 := blk_frozen BK161.out 0
                  have hfz17_1 := blk_frozen BK161.out 1
                  have hfz17_2 := blk_frozen BK161.out 2
                  have hfz17_3 := blk_frozen BK161.out 3
                  go_wp2
                  go_ret
                  exact ⟨by first | rfl | (simp [errW_none, errW_some] <;> rfl) | (simp [*, errW_none, errW_some] <;> rfl), by repeat (first | (with_reducible first | exact HB.out | apply below_alloc | apply pw_below_drewN | apply below_drew1 | refine below_set ?_ GE161.out) | exact HB.out)⟩
                · rw [if_neg c16] at H
                  have c16b0 : ((l0_3.length : Int) == 0) = false := beq_eq_false_iff_ne.mpr c16
                  have c16b1 : ((l0_3.length : Int) != 0) = true := bne_iff_ne.mpr c16
                  have c16b2 : ¬ (l0_3 = []) := fun h_ => c16 (by rw [h_]; rfl)
                  by_cases c18 : (l0_3.length : Int) > 1048576
                  · rw [if_pos c18] at H
                    have c18b0 : decide (1048576 < (l0_3.length : Int)) = true := decide_eq_true c18
                    have c18b1 : decide (1048576 < l0_3.length) = true := decide_eq_true (by omega)
                    clear c18
                    obtain rfl := Option.some.inj H
                    have hcz19_0 : wc.cell? ⟨gb161, 0, none⟩ = some (.int .i64 a0_0) := (blk_cell BK161.out 0).trans rfl
                    have hcz19_1 : wc.cell? ⟨gb161, 1, none⟩ = some (.int .i64 a0_1) := (blk_cell BK161.out 1).trans rfl
                    have hcz19_2 : wc.cell? ⟨gb161, 2, none⟩ = some (.int .i64 a0_2) := (blk_cell BK161.out 2).trans rfl
                    have hcz19_3 : wc.cell? ⟨gb161, 3, none⟩ = some (.slice A0_3 l0_3.length c0_3) := (blk_cell BK161.out 3).trans rfl
                    have hfz19_0 := blk_frozen BK161.out 0
                    have hfz19_1 := blk_frozen BK161.out 1
                    have hfz19_2 := blk_frozen BK161.out 2
                    have hfz19_3 := blk_frozen BK161.out 3
                    go_wp2
                    go_ret
                    exact ⟨by first | rfl | (simp [errW_none, errW_some] <;> rfl) | (simp [*, errW_none, errW_some] <;> rfl), by repeat (first | (with_reducible first | exact HB.out | apply below_alloc | apply pw_below_drewN | apply below_drew1 | refine below_set ?_ GE161.out) | exact HB.out)⟩
                  · rw [if_neg c18] at H
                    have c18b0 : decide (1048576 < (l0_3.length : Int)) = false := decide_eq_false c18
                    have c18b1 : decide (1048576 < l0_3.length) = false := decide_eq_false (by omega)
                    clear c18
                    replace H := Option.bind_eq_some_iff.mp H
                    obtain ⟨t162, A200, H⟩ := H
                    replace H : (if t162 > 1048576 then (some 6) else (machine_Check.l0 kj9 l0_3 (l0_3.length : Int) 0 a0_0 a0_1 a0_2 l0_3)) = some r := H
                    have A20 := Aside0.mk A200
                    clear A200
                    by_cases c21 : t162 > 1048576
                    · rw [if_pos c21] at H
                      have c21b0 : decide (1048576 < t162) = true := decide_eq_true c21
                      clear c21
                      obtain rfl := Option.some.inj H
                      have hcz22_0 : wc.cell? ⟨gb161, 0, none⟩ = some (.int .i64 a0_0) := (blk_cell BK161.out 0).trans rfl
                      have hcz22_1 : wc.cell? ⟨gb161, 1, none⟩ = some (.int .i64 a0_1) := (blk_cell BK161.out 1).trans rfl
                      have hcz22_2 : wc.cell? ⟨gb161, 2, none⟩ = some (.int .i64 a0_2) := (blk_cell BK161.out 2).trans rfl
                      have hcz22_3 : wc.cell? ⟨gb161, 3, none⟩ = some (.slice A0_3 l0_3.length c0_3) := (blk_cell BK161.out 3).trans rfl
                      have hfz22_0 := blk_frozen BK161.out 0
                      have hfz22_1 := blk_frozen BK161.out 1
                      have hfz22_2 := blk_frozen BK161.out 2
                      have hfz22_3 := blk_frozen BK161.out 3
                      go_wp2_with (first | (go_at_call 40; (with_reducible refine (machine_Code.calls kj9 a0_0 a0_1 a0_2 _ _ l0_3 t162 _ ?side1 ?side2 A20.out).mono ?_); (case side1 => repeat (first | exact (Kd.C_below HR0_3.out HB.out) | (with_reducible refine Kd.C_alloc ?_ _) | (with_reducible refine Kd.C_drewN ?_ _) | (with_reducible refine Kd.C_drew ?_))); (case side2 => exact HC0_3.out); rintro e w23 ⟨rfl, hb⟩; have n0_ := Aside0.mk (blk_below (g := gb161) (o := .cells #[.int .i64 a0_0, .int .i64 a0_1, .int .i64 a0_2, .slice A0_3 l0_3.length c0_3] 64 (0, 0)) (by (with_reducible repeat (first | refine blk_drewN ?_ _ | refine blk_drew ?_ | refine blk_alloc ?_ _)); exact BK161.out) hb); have n1_ := Aside0.mk (below_step (by repeat (first | (with_reducible first | exact HB.out | apply below_alloc | apply pw_below_drewN | apply below_drew1 | refine below_set ?_ GE161.out) | exact HB.out)) hb); clear BK161; clear HB; have BK161 := n0_; have HB := n1_; clear n0_ n1_; (try clear hb); (try clear hb2); (try clear hk); (try clear hi)))
                      go_ret
                      exact ⟨by first | rfl | (simp [errW_none, errW_some] <;> rfl) | (simp [*, errW_none, errW_some] <;> rfl), by repeat (first | (with_reducible first | exact HB.out | apply below_alloc | apply pw_below_drewN | apply below_drew1 | refine below_set ?_ GE161.out) | exact HB.out)⟩
                    · rw [if_neg c21] at H
                      have c21b0 : decide (1048576 < t162) = false := decide_eq_false c21
                      clear c21
                      have H' := Aside0.mk H
                      clear H
                      have hcz24_0 : wc.cell? ⟨gb161, 0, none⟩ = some (.int .i64 a0_0) := (blk_cell BK161.out 0).trans rfl
                      have hcz24_1 : wc.cell? ⟨gb161, 1, none⟩ = some (.int .i64 a0_1) := (blk_cell BK161.out 1).trans rfl
                      have hcz24_2 : wc.cell? ⟨gb161, 2, none⟩ = some (.int .i64 a0_2) := (blk_cell BK161.out 2).trans rfl
                      have hcz24_3 : wc.cell? ⟨gb161, 3, none⟩ = some (.slice A0_3 l0_3.length c0_3) := (blk_cell BK161.out 3).trans rfl
                      have hfz24_0 := blk_frozen BK161.out 0
                      have hfz24_1 := blk_frozen BK161.out 1
                      have hfz24_2 := blk_frozen BK161.out 2
                      have hfz24_3 := blk_frozen BK161.out 3
                      go_wp2_with (first | (go_at_call 40; (with_reducible refine (machine_Code.calls kj9 a0_0 a0_1 a0_2 _ _ l0_3 t162 _ ?side1 ?side2 A20.out).mono ?_); (case side1 => repeat (first | exact (Kd.C_below HR0_3.out HB.out) | (with_reducible refine Kd.C_alloc ?_ _) | (with_reducible refine Kd.C_drewN ?_ _) | (with_reducible refine Kd.C_drew ?_))); (case side2 => exact HC0_3.out); rintro e w25 ⟨rfl, hb⟩; have n0_ := Aside0.mk (blk_below (g := gb161) (o := .cells #[.int .i64 a0_0, .int .i64 a0_1, .int .i64 a0_2, .slice A0_3 l0_3.length c0_3] 64 (0, 0)) (by (with_reducible repeat (first | refine blk_drewN ?_ _ | refine blk_drew ?_ | refine blk_alloc ?_ _)); exact BK161.out) hb); have n1_ := Aside0.mk (below_step (by repeat (first | (with_reducible first | exact HB.out | apply below_alloc | apply pw_below_drewN | apply below_drew1 | refine below_set ?_ GE161.out) | exact HB.out)) hb); clear BK161; clear HB; have BK161 := n0_; have HB := n1_; clear n0_ n1_; (try clear hb); (try clear hb2); (try clear hk); (try clear hi); have hcz26_0 : w25.cell? ⟨gb161, 0, none⟩ = some (.int .i64 a0_0) := (blk_cell BK161.out 0).trans rfl; have hcz26_1 : w25.cell? ⟨gb161, 1, none⟩ = some (.int .i64 a0_1) := (blk_cell BK161.out 1).trans rfl; have hcz26_2 : w25.cell? ⟨gb161, 2, none⟩ = some (.int .i64 a0_2) := (blk_cell BK161.out 2).trans rfl; have hcz26_3 : w25.cell? ⟨gb161, 3, none⟩ = some (.slice A0_3 l0_3.length c0_3) := (blk_cell BK161.out 3).trans rfl; have hfz26_0 := blk_frozen BK161.out 0; have hfz26_1 := blk_frozen BK161.out 1; have hfz26_2 := blk_frozen BK161.out 2; have hfz26_3 := blk_frozen BK161.out 3))
                      go_loopg [48] kj9 (fun kq v48 w' => ∃ (x48_3 : Int), v48 = .int .i64 x48_3 ∧ Aside0 (machine_Check.l0 kq l0_3 (l0_3.length : Int) x48_3 a0_0 a0_1 a0_2 l0_3 = some r) ∧ Aside0 (kq ≤ kj9) ∧ Aside0 (w'.heap[gb161]? = some (.cells #[.int .i64 a0_0, .int .i64 a0_1, .int .i64 a0_2, (.slice A0_3 l0_3.length c0_3)] 64 (0, 0))) ∧ Aside0 (Below w.heap.size w w'))
                      case atStart => exact ⟨(0), (by first | rfl | (simp; done) | (simp [*]; done)), H', ⟨Nat.le_refl _⟩, ⟨by (with_reducible repeat (first | refine blk_drewN ?_ _ | refine blk_drew ?_ | refine blk_alloc ?_ _)); exact BK161.out⟩, ⟨by repeat (first | (with_reducible first | exact HB.out | apply below_alloc | apply pw_below_drewN | apply below_drew1 | refine below_set ?_ GE161.out) | exact HB.out)⟩⟩
                      case round =>
                        clear H'
                        try clear c1
                        try clear c2
                        try clear p2
                        try clear c3
                        try clear c4
                        try clear c4b0
                        try clear c7
                        try clear c8
                        try clear c8b0
                        try clear c12
                        try clear c12b0
                        try clear c15
                        try clear c16
                        try clear c16b0
                        try clear c16b1
                        try clear c16b2
                        try clear c18
                        try clear c18b0
                        try clear c18b1
                        try clear c21
                        try clear c21b0
                        try clear hcz11_0
                        try clear hcz11_1
                        try clear hcz11_2
                        try clear hcz11_3
                        try clear hcz13_0
                        try clear hcz13_1
                        try clear hcz13_2
                        try clear hcz13_3
                        try clear hcz14_0
                        try clear hcz14_1
                        try clear hcz14_2
                        try clear hcz14_3
                        try clear hcz17_0
                        try clear hcz17_1
                        try clear hcz17_2
                        try clear hcz17_3
                        try clear hcz19_0
                        try clear hcz19_1
                        try clear hcz19_2
                        try clear hcz19_3
                        try clear hcz22_0
                        try clear hcz22_1
                        try clear hcz22_2
                        try clear hcz22_3
                        try clear hcz24_0
                        try clear hcz24_1
                        try clear hcz24_2
                        try clear hcz24_3
                        try clear hcz26_0
                        try clear hcz26_1
                        try clear hcz26_2
                        try clear hcz26_3
                        try clear hcz5_0
                        try clear hcz5_1
                        try clear hcz5_2
                        try clear hcz5_3
                        try clear hcz6_0
                        try clear hcz6_1
                        try clear hcz6_2
                        try clear hcz6_3
                        try clear hcz9_0
                        try clear hcz9_1
                        try clear hcz9_2
                        try clear hcz9_3
                        try clear hfz11_0
                        try clear hfz11_1
                        try clear hfz11_2
                        try clear hfz11_3
                        try clear hfz13_0
                        try clear hfz13_1
                        try clear hfz13_2
                        try clear hfz13_3
                        try clear hfz14_0
                        try clear hfz14_1
                        try clear hfz14_2
                        try clear hfz14_3
                        try clear hfz17_0
                        try clear hfz17_1
                        try clear hfz17_2
                        try clear hfz17_3
                        try clear hfz19_0
                        try clear hfz19_1
                        try clear hfz19_2
                        try clear hfz19_3
                        try clear hfz22_0
                        try clear hfz22_1
                        try clear hfz22_2
                        try clear hfz22_3
                        try clear hfz24_0
                        try clear hfz24_1
                        try clear hfz24_2
                        try clear hfz24_3
                        try clear hfz26_0
                        try clear hfz26_1
                        try clear hfz26_2
                        try clear hfz26_3
                        try clear hfz5_0
                        try clear hfz5_1
                        try clear hfz5_2
                        try clear hfz5_3
                        try clear hfz6_0
                        try clear hfz6_1
                        try clear hfz6_2
                        try clear hfz6_3
                        try clear hfz9_0
                        try clear hfz9_1
                        try clear hfz9_2
                        try clear hfz9_3
                        try clear p2
                        obtain ⟨x48_3, rfl, HA, HK3, BK161, HB⟩ := hrel
                        cases gk with
                        | zero => exact absurd HA.out (by simp [machine_Check.l0])
                        | succ k3 =>
                          have H := HA.out
                          clear HA
                          simp only [machine_Check.l0] at H
                          by_cases c27 : x48_3 < (l0_3.length : Int)
                          · rw [if_pos c27] at H
                            have c27b0 : decide (x48_3 < (l0_3.length : Int)) = true := decide_eq_true c27
                            clear c27
                            by_cases c28 : 0 ≤ x48_3
                            · rw [if_pos c28] at H
                              have c28b0 : decide (0 ≤ x48_3) = true := decide_eq_true c28
                              clear c28
                              by_cases c29 : x48_3 < (l0_3.length : Int)
                              · rw [if_pos c29] at H
                                have c29b0 : decide (x48_3 < (l0_3.length : Int)) = true := decide_eq_true c29
                                clear c29
                                replace H := Option.bind_eq_some_iff.mp H
                                obtain ⟨t165, A300, H⟩ := H
                                replace H : (if t165 = 0 then (machine_Check.l0 k3 l0_3 (l0_3.length : Int) (wrap64 (x48_3 + 1)) a0_0 a0_1 a0_2 l0_3) else (some t165)) = some r := H
                                have A30 := Aside0.mk A300
                                clear A300
                                by_cases c31 : t165 = 0
                                · rw [if_pos c31] at H
                                  have c31b0 : (t165 == 0) = true := beq_iff_eq.mpr c31
                                  have c31b1 : (t165 != 0) = false := bne_eq_false_iff_eq.mpr c31
                                  clear c31
                                  have H' := Aside0.mk H
                                  clear H
                                  have p163 : 0 ≤ (x48_3 : Int) := of_decide_eq_true (by first | (with_reducible assumption) | assumption)
                                  have q163 : x48_3 < (l0_3.length : Int) := of_decide_eq_true (by first | (with_reducible assumption) | assumption)
                                  obtain ⟨ad163, A163_0, c163_0, e163, hx163_0, hx163_1, hx163_2, hx163_3, hx163_4, hl163_0, hi163_0⟩ := at_T74 HR0_3.out x48_3 p163 q163
                                  cases e163
                                  replace hx163_0 := (HB.out.cell (World.block_lt_of_cell? w _ hx163_0)).trans hx163_0
                                  replace hx163_1 := (HB.out.cell (World.block_lt_of_cell? w _ hx163_1)).trans hx163_1
                                  replace hx163_2 := (HB.out.cell (World.block_lt_of_cell? w _ hx163_2)).trans hx163_2
                                  replace hx163_3 := (HB.out.cell (World.block_lt_of_cell? w _ hx163_3)).trans hx163_3
                                  replace hx163_4 := (HB.out.cell (World.block_lt_of_cell? w _ hx163_4)).trans hx163_4
                                  have HR163_0 := Aside0.mk hi163_0
                                  have HC163_0 := Aside0.mk hl163_0
                                  clear hi163_0 hl163_0
                                  replace p163 := eq_true p163
                                  replace q163 := eq_true q163
                                  go_wp2_with (first | ((with_reducible refine gate_dst (N := 4) rfl ?_); refine box_event ?hg (N := 4) ?hd (cs := #[.slice none 0 0, .int .i64 0, .int .i64 0, .int .i64 0, .int .i64 0]) (t := 74) ?hr ?_; (case hd => rfl); (case hg => rfl); (case hr => first | (go_simp; done) | (go_simp; rfl)); intro gb164 hg w32 hbox hb; have n0_ := Aside0.mk (blk_below (g := gb161) (o := .cells #[.int .i64 a0_0, .int .i64 a0_1, .int .i64 a0_2, .slice (some ad163) l0_3.length c0_3] 64 (0, 0)) (by (with_reducible repeat (first | refine blk_drewN ?_ _ | refine blk_drew ?_ | refine blk_alloc ?_ _)); exact BK161.out) hb); have n1_ := Aside0.mk (below_step (by repeat (first | (with_reducible first | exact HB.out | apply below_alloc | apply pw_below_drewN | apply below_drew1 | refine below_set ?_ GE161.out) | exact HB.out)) hb); have n2_ := Aside0.mk (hbox); have n3_ := Aside0.mk ((by rw [hg]; exact (below_size (by repeat (first | (with_reducible first | exact HB.out | apply below_alloc | apply pw_below_drewN | apply below_drew1 | refine below_set ?_ GE161.out) | exact HB.out))) : w.heap.size ≤ gb164)); have n4_ := Aside0.mk ((by rw [hg]; exact (below_size (by repeat (first | (with_reducible first | exact HB.out | apply below_alloc | apply pw_below_drewN | apply below_drew1 | refine below_set ?_ GE161.out) | exact HB.out))) : w.heap.size ≤ gb164)); have n5_ := Aside0.mk ((by rw [hg]; exact Nat.ne_of_lt (blk_lt (g := gb161) (o := .cells #[.int .i64 a0_0, .int .i64 a0_1, .int .i64 a0_2, .slice (some ad163) l0_3.length c0_3] 64 (0, 0)) (by (with_reducible repeat (first | refine blk_drewN ?_ _ | refine blk_drew ?_ | refine blk_alloc ?_ _)); exact BK161.out)) : gb161 ≠ gb164)); have n6_ := Aside0.mk ((by rw [hg]; exact Nat.ne_of_gt (blk_lt (g := gb161) (o := .cells #[.int .i64 a0_0, .int .i64 a0_1, .int .i64 a0_2, .slice (some ad163) l0_3.length c0_3] 64 (0, 0)) (by (with_reducible repeat (first | refine blk_drewN ?_ _ | refine blk_drew ?_ | refine blk_alloc ?_ _)); exact BK161.out)) : gb164 ≠ gb161)); clear BK161; clear HB; have BK161 := n0_; have HB := n1_; have BK164 := n2_; have GW164 := n3_; have GE164 := n4_; have NB161_164 := n5_; have NB164_161 := n6_; clear n0_ n1_ n2_ n3_ n4_ n5_ n6_; clear hb hbox hg; have hnb33 := NB164_161.out; have hnc33 := NB161_164.out; have hcz34_0 : w32.cell? ⟨gb164, 0, none⟩ = some (.slice none 0 0) := (blk_cell BK164.out 0).trans rfl; have hcz34_1 : w32.cell? ⟨gb164, 1, none⟩ = some (.int .i64 0) := (blk_cell BK164.out 1).trans rfl; have hcz34_2 : w32.cell? ⟨gb164, 2, none⟩ = some (.int .i64 0) := (blk_cell BK164.out 2).trans rfl; have hcz34_3 : w32.cell? ⟨gb164, 3, none⟩ = some (.int .i64 0) := (blk_cell BK164.out 3).trans rfl; have hcz34_4 : w32.cell? ⟨gb164, 4, none⟩ = some (.int .i64 0) := (blk_cell BK164.out 4).trans rfl; have hfz34_0 := blk_frozen BK164.out 0; have hfz34_1 := blk_frozen BK164.out 1; have hfz34_2 := blk_frozen BK164.out 2; have hfz34_3 := blk_frozen BK164.out 3; have hfz34_4 := blk_frozen BK164.out 4; have hcz35_0 : w32.cell? ⟨gb161, 0, none⟩ = some (.int .i64 a0_0) := (blk_cell BK161.out 0).trans rfl; have hcz35_1 : w32.cell? ⟨gb161, 1, none⟩ = some (.int .i64 a0_1) := (blk_cell BK161.out 1).trans rfl; have hcz35_2 : w32.cell? ⟨gb161, 2, none⟩ = some (.int .i64 a0_2) := (blk_cell BK161.out 2).trans rfl; have hcz35_3 : w32.cell? ⟨gb161, 3, none⟩ = some (.slice (some ad163) l0_3.length c0_3) := (blk_cell BK161.out 3).trans rfl; have hfz35_0 := blk_frozen BK161.out 0; have hfz35_1 := blk_frozen BK161.out 1; have hfz35_2 := blk_frozen BK161.out 2; have hfz35_3 := blk_frozen BK161.out 3) | ((with_reducible refine gate_callee (f := 55) rfl ?_); refine goesL_ (some 54) rfl rfl Try.func55 (by kernel_rfl) rfl #[.agg #[.int .i64 a0_0, .int .i64 a0_1, .int .i64 a0_2, .slice (some ad163) l0_3.length c0_3], .agg #[.slice A163_0 ((rd_T74 l0_3 x48_3).f0).length c163_0, .int .i64 ((rd_T74 l0_3 x48_3).f1.f0), .int .i64 ((rd_T74 l0_3 x48_3).f1.f1), .int .i64 ((rd_T74 l0_3 x48_3).f1.f2), .int .i64 ((rd_T74 l0_3 x48_3).f1.f3)]] rfl (by (try simp only [List.map_toArray, List.map_cons, List.map_nil]); first | done | rfl | (simp only [List.length_drop, List.length_take]; rfl)) ?_; (with_reducible refine (machine_block.calls k3 a0_0 a0_1 a0_2 _ _ l0_3 _ _ ((rd_T74 l0_3 x48_3).f0) ((rd_T74 l0_3 x48_3).f1.f0) ((rd_T74 l0_3 x48_3).f1.f1) ((rd_T74 l0_3 x48_3).f1.f2) ((rd_T74 l0_3 x48_3).f1.f3) t165 _ ?side1 ?side2 ?side3 ?side4 A30.out).mono ?_); (case side1 => exact Kd.C_below HR0_3.out (by repeat (first | (with_reducible first | exact HB.out | apply below_alloc | apply pw_below_drewN | apply below_drew1 | refine below_set ?_ GE161.out | refine below_set ?_ GE164.out) | exact HB.out))); (case side2 => exact HC0_3.out); (case side3 => exact Kd.C_below HR163_0.out (by repeat (first | (with_reducible first | exact HB.out | apply below_alloc | apply pw_below_drewN | apply below_drew1 | refine below_set ?_ GE161.out | refine below_set ?_ GE164.out) | exact HB.out))); (case side4 => exact HC163_0.out); rintro e w36 ⟨rfl, hb⟩; refine ⟨_, rfl, ?_⟩; have n0_ := Aside0.mk (blk_below (g := gb161) (o := .cells #[.int .i64 a0_0, .int .i64 a0_1, .int .i64 a0_2, .slice (some ad163) l0_3.length c0_3] 64 (0, 0)) (by (with_reducible repeat (first | refine blk_drewN ?_ _ | refine blk_drew ?_ | refine blk_alloc ?_ _)); refine blk_far ?_ NB161_164.out _; (with_reducible repeat (first | refine blk_drewN ?_ _ | refine blk_drew ?_ | refine blk_alloc ?_ _)); refine blk_far ?_ NB161_164.out _; (with_reducible repeat (first | refine blk_drewN ?_ _ | refine blk_drew ?_ | refine blk_alloc ?_ _)); refine blk_far ?_ NB161_164.out _; (with_reducible repeat (first | refine blk_drewN ?_ _ | refine blk_drew ?_ | refine blk_alloc ?_ _)); refine blk_far ?_ NB161_164.out _; (with_reducible repeat (first | refine blk_drewN ?_ _ | refine blk_drew ?_ | refine blk_alloc ?_ _)); refine blk_far ?_ NB161_164.out _; (with_reducible repeat (first | refine blk_drewN ?_ _ | refine blk_drew ?_ | refine blk_alloc ?_ _)); exact BK161.out) hb); have n1_ := Aside0.mk (blk_below (g := gb164) (o := .cells #[.slice A163_0 ((rd_T74 l0_3 x48_3).f0).length c163_0, .int .i64 ((rd_T74 l0_3 x48_3).f1.f0), .int .i64 ((rd_T74 l0_3 x48_3).f1.f1), .int .i64 ((rd_T74 l0_3 x48_3).f1.f2), .int .i64 ((rd_T74 l0_3 x48_3).f1.f3)] 74 (0, 0)) (by (with_reducible repeat (first | refine blk_drewN ?_ _ | refine blk_drew ?_ | refine blk_alloc ?_ _)); refine blk_put (cs := #[.slice A163_0 ((rd_T74 l0_3 x48_3).f0).length c163_0, .int .i64 ((rd_T74 l0_3 x48_3).f1.f0), .int .i64 ((rd_T74 l0_3 x48_3).f1.f1), .int .i64 ((rd_T74 l0_3 x48_3).f1.f2), .int .i64 0]) ?_ 4 _ rfl; (with_reducible repeat (first | refine blk_drewN ?_ _ | refine blk_drew ?_ | refine blk_alloc ?_ _)); refine blk_put (cs := #[.slice A163_0 ((rd_T74 l0_3 x48_3).f0).length c163_0, .int .i64 ((rd_T74 l0_3 x48_3).f1.f0), .int .i64 ((rd_T74 l0_3 x48_3).f1.f1), .int .i64 0, .int .i64 0]) ?_ 3 _ rfl; (with_reducible repeat (first | refine blk_drewN ?_ _ | refine blk_drew ?_ | refine blk_alloc ?_ _)); refine blk_put (cs := #[.slice A163_0 ((rd_T74 l0_3 x48_3).f0).length c163_0, .int .i64 ((rd_T74 l0_3 x48_3).f1.f0), .int .i64 0, .int .i64 0, .int .i64 0]) ?_ 2 _ rfl; (with_reducible repeat (first | refine blk_drewN ?_ _ | refine blk_drew ?_ | refine blk_alloc ?_ _)); refine blk_put (cs := #[.slice A163_0 ((rd_T74 l0_3 x48_3).f0).length c163_0, .int .i64 0, .int .i64 0, .int .i64 0, .int .i64 0]) ?_ 1 _ rfl; (with_reducible repeat (first | refine blk_drewN ?_ _ | refine blk_drew ?_ | refine blk_alloc ?_ _)); refine blk_put (cs := #[.slice none 0 0, .int .i64 0, .int .i64 0, .int .i64 0, .int .i64 0]) ?_ 0 _ rfl; (with_reducible repeat (first | refine blk_drewN ?_ _ | refine blk_drew ?_ | refine blk_alloc ?_ _)); exact BK164.out) hb); have n2_ := Aside0.mk (below_step (by repeat (first | (with_reducible first | exact HB.out | apply below_alloc | apply pw_below_drewN | apply below_drew1 | refine below_set ?_ GE161.out | refine below_set ?_ GE164.out) | exact HB.out)) hb); clear BK161; clear BK164; clear HB; have BK161 := n0_; have BK164 := n1_; have HB := n2_; clear n0_ n1_ n2_; (try clear hb); (try clear hb2); (try clear hk); (try clear hi)))
                                  go_roundg k3
                                  case measure => have := HJ1.out; have := HJ9.out; have := HK3.out; omega
                                  case rel => exact ⟨(wrap64 (x48_3 + 1)), (by first | rfl | (simp; done) | (simp [*]; done)), H', ⟨by have := HJ1.out; have := HJ9.out; have := HK3.out; omega⟩, ⟨by (with_reducible repeat (first | refine blk_drewN ?_ _ | refine blk_drew ?_ | refine blk_alloc ?_ _)); exact BK161.out⟩, ⟨by repeat (first | (with_reducible first | exact HB.out | apply below_alloc | apply pw_below_drewN | apply below_drew1 | refine below_set ?_ GE161.out | refine below_set ?_ GE164.out) | exact HB.out)⟩⟩
                                · rw [if_neg c31] at H
                                  have c31b0 : (t165 == 0) = false := beq_eq_false_iff_ne.mpr c31
                                  have c31b1 : (t165 != 0) = true := bne_iff_ne.mpr c31
                                  obtain rfl := Option.some.inj H
                                  have p163 : 0 ≤ (x48_3 : Int) := of_decide_eq_true (by first | (with_reducible assumption) | assumption)
                                  have q163 : x48_3 < (l0_3.length : Int) := of_decide_eq_true (by first | (with_reducible assumption) | assumption)
                                  obtain ⟨ad163, A163_0, c163_0, e163, hx163_0, hx163_1, hx163_2, hx163_3, hx163_4, hl163_0, hi163_0⟩ := at_T74 HR0_3.out x48_3 p163 q163
                                  cases e163
                                  replace hx163_0 := (HB.out.cell (World.block_lt_of_cell? w _ hx163_0)).trans hx163_0
                                  replace hx163_1 := (HB.out.cell (World.block_lt_of_cell? w _ hx163_1)).trans hx163_1
                                  replace hx163_2 := (HB.out.cell (World.block_lt_of_cell? w _ hx163_2)).trans hx163_2
                                  replace hx163_3 := (HB.out.cell (World.block_lt_of_cell? w _ hx163_3)).trans hx163_3
                                  replace hx163_4 := (HB.out.cell (World.block_lt_of_cell? w _ hx163_4)).trans hx163_4
                                  have HR163_0 := Aside0.mk hi163_0
                                  have HC163_0 := Aside0.mk hl163_0
                                  clear hi163_0 hl163_0
                                  replace p163 := eq_true p163
                                  replace q163 := eq_true q163
                                  go_wp2_with (first | ((with_reducible refine gate_dst (N := 4) rfl ?_); refine box_event ?hg (N := 4) ?hd (cs := #[.slice none 0 0, .int .i64 0, .int .i64 0, .int .i64 0, .int .i64 0]) (t := 74) ?hr ?_; (case hd => rfl); (case hg => rfl); (case hr => first | (go_simp; done) | (go_simp; rfl)); intro gb164 hg w37 hbox hb; have n0_ := Aside0.mk (blk_below (g := gb161) (o := .cells #[.int .i64 a0_0, .int .i64 a0_1, .int .i64 a0_2, .slice (some ad163) l0_3.length c0_3] 64 (0, 0)) (by (with_reducible repeat (first | refine blk_drewN ?_ _ | refine blk_drew ?_ | refine blk_alloc ?_ _)); exact BK161.out) hb); have n1_ := Aside0.mk (below_step (by repeat (first | (with_reducible first | exact HB.out | apply below_alloc | apply pw_below_drewN | apply below_drew1 | refine below_set ?_ GE161.out) | exact HB.out)) hb); have n2_ := Aside0.mk (hbox); have n3_ := Aside0.mk ((by rw [hg]; exact (below_size (by repeat (first | (with_reducible first | exact HB.out | apply below_alloc | apply pw_below_drewN | apply below_drew1 | refine below_set ?_ GE161.out) | exact HB.out))) : w.heap.size ≤ gb164)); have n4_ := Aside0.mk ((by rw [hg]; exact (below_size (by repeat (first | (with_reducible first | exact HB.out | apply below_alloc | apply pw_below_drewN | apply below_drew1 | refine below_set ?_ GE161.out) | exact HB.out))) : w.heap.size ≤ gb164)); have n5_ := Aside0.mk ((by rw [hg]; exact Nat.ne_of_lt (blk_lt (g := gb161) (o := .cells #[.int .i64 a0_0, .int .i64 a0_1, .int .i64 a0_2, .slice (some ad163) l0_3.length c0_3] 64 (0, 0)) (by (with_reducible repeat (first | refine blk_drewN ?_ _ | refine blk_drew ?_ | refine blk_alloc ?_ _)); exact BK161.out)) : gb161 ≠ gb164)); have n6_ := Aside0.mk ((by rw [hg]; exact Nat.ne_of_gt (blk_lt (g := gb161) (o := .cells #[.int .i64 a0_0, .int .i64 a0_1, .int .i64 a0_2, .slice (some ad163) l0_3.length c0_3] 64 (0, 0)) (by (with_reducible repeat (first | refine blk_drewN ?_ _ | refine blk_drew ?_ | refine blk_alloc ?_ _)); exact BK161.out)) : gb164 ≠ gb161)); clear BK161; clear HB; have BK161 := n0_; have HB := n1_; have BK164 := n2_; have GW164 := n3_; have GE164 := n4_; have NB161_164 := n5_; have NB164_161 := n6_; clear n0_ n1_ n2_ n3_ n4_ n5_ n6_; clear hb hbox hg; have hnb38 := NB164_161.out; have hnc38 := NB161_164.out; have hcz39_0 : w37.cell? ⟨gb164, 0, none⟩ = some (.slice none 0 0) := (blk_cell BK164.out 0).trans rfl; have hcz39_1 : w37.cell? ⟨gb164, 1, none⟩ = some (.int .i64 0) := (blk_cell BK164.out 1).trans rfl; have hcz39_2 : w37.cell? ⟨gb164, 2, none⟩ = some (.int .i64 0) := (blk_cell BK164.out 2).trans rfl; have hcz39_3 : w37.cell? ⟨gb164, 3, none⟩ = some (.int .i64 0) := (blk_cell BK164.out 3).trans rfl; have hcz39_4 : w37.cell? ⟨gb164, 4, none⟩ = some (.int .i64 0) := (blk_cell BK164.out 4).trans rfl; have hfz39_0 := blk_frozen BK164.out 0; have hfz39_1 := blk_frozen BK164.out 1; have hfz39_2 := blk_frozen BK164.out 2; have hfz39_3 := blk_frozen BK164.out 3; have hfz39_4 := blk_frozen BK164.out 4; have hcz40_0 : w37.cell? ⟨gb161, 0, none⟩ = some (.int .i64 a0_0) := (blk_cell BK161.out 0).trans rfl; have hcz40_1 : w37.cell? ⟨gb161, 1, none⟩ = some (.int .i64 a0_1) := (blk_cell BK161.out 1).trans rfl; have hcz40_2 : w37.cell? ⟨gb161, 2, none⟩ = some (.int .i64 a0_2) := (blk_cell BK161.out 2).trans rfl; have hcz40_3 : w37.cell? ⟨gb161, 3, none⟩ = some (.slice (some ad163) l0_3.length c0_3) := (blk_cell BK161.out 3).trans rfl; have hfz40_0 := blk_frozen BK161.out 0; have hfz40_1 := blk_frozen BK161.out 1; have hfz40_2 := blk_frozen BK161.out 2; have hfz40_3 := blk_frozen BK161.out 3) | ((with_reducible refine gate_callee (f := 55) rfl ?_); refine goesL_ (some 54) rfl rfl Try.func55 (by kernel_rfl) rfl #[.agg #[.int .i64 a0_0, .int .i64 a0_1, .int .i64 a0_2, .slice (some ad163) l0_3.length c0_3], .agg #[.slice A163_0 ((rd_T74 l0_3 x48_3).f0).length c163_0, .int .i64 ((rd_T74 l0_3 x48_3).f1.f0), .int .i64 ((rd_T74 l0_3 x48_3).f1.f1), .int .i64 ((rd_T74 l0_3 x48_3).f1.f2), .int .i64 ((rd_T74 l0_3 x48_3).f1.f3)]] rfl (by (try simp only [List.map_toArray, List.map_cons, List.map_nil]); first | done | rfl | (simp only [List.length_drop, List.length_take]; rfl)) ?_; (with_reducible refine (machine_block.calls k3 a0_0 a0_1 a0_2 _ _ l0_3 _ _ ((rd_T74 l0_3 x48_3).f0) ((rd_T74 l0_3 x48_3).f1.f0) ((rd_T74 l0_3 x48_3).f1.f1) ((rd_T74 l0_3 x48_3).f1.f2) ((rd_T74 l0_3 x48_3).f1.f3) t165 _ ?side1 ?side2 ?side3 ?side4 A30.out).mono ?_); (case side1 => exact Kd.C_below HR0_3.out (by repeat (first | (with_reducible first | exact HB.out | apply below_alloc | apply pw_below_drewN | apply below_drew1 | refine below_set ?_ GE161.out | refine below_set ?_ GE164.out) | exact HB.out))); (case side2 => exact HC0_3.out); (case side3 => exact Kd.C_below HR163_0.out (by repeat (first | (with_reducible first | exact HB.out | apply below_alloc | apply pw_below_drewN | apply below_drew1 | refine below_set ?_ GE161.out | refine below_set ?_ GE164.out) | exact HB.out))); (case side4 => exact HC163_0.out); rintro e w41 ⟨rfl, hb⟩; refine ⟨_, rfl, ?_⟩; have n0_ := Aside0.mk (blk_below (g := gb161) (o := .cells #[.int .i64 a0_0, .int .i64 a0_1, .int .i64 a0_2, .slice (some ad163) l0_3.length c0_3] 64 (0, 0)) (by (with_reducible repeat (first | refine blk_drewN ?_ _ | refine blk_drew ?_ | refine blk_alloc ?_ _)); refine blk_far ?_ NB161_164.out _; (with_reducible repeat (first | refine blk_drewN ?_ _ | refine blk_drew ?_ | refine blk_alloc ?_ _)); refine blk_far ?_ NB161_164.out _; (with_reducible repeat (first | refine blk_drewN ?_ _ | refine blk_drew ?_ | refine blk_alloc ?_ _)); refine blk_far ?_ NB161_164.out _; (with_reducible repeat (first | refine blk_drewN ?_ _ | refine blk_drew ?_ | refine blk_alloc ?_ _)); refine blk_far ?_ NB161_164.out _; (with_reducible repeat (first | refine blk_drewN ?_ _ | refine blk_drew ?_ | refine blk_alloc ?_ _)); refine blk_far ?_ NB161_164.out _; (with_reducible repeat (first | refine blk_drewN ?_ _ | refine blk_drew ?_ | refine blk_alloc ?_ _)); exact BK161.out) hb); have n1_ := Aside0.mk (blk_below (g := gb164) (o := .cells #[.slice A163_0 ((rd_T74 l0_3 x48_3).f0).length c163_0, .int .i64 ((rd_T74 l0_3 x48_3).f1.f0), .int .i64 ((rd_T74 l0_3 x48_3).f1.f1), .int .i64 ((rd_T74 l0_3 x48_3).f1.f2), .int .i64 ((rd_T74 l0_3 x48_3).f1.f3)] 74 (0, 0)) (by (with_reducible repeat (first | refine blk_drewN ?_ _ | refine blk_drew ?_ | refine blk_alloc ?_ _)); refine blk_put (cs := #[.slice A163_0 ((rd_T74 l0_3 x48_3).f0).length c163_0, .int .i64 ((rd_T74 l0_3 x48_3).f1.f0), .int .i64 ((rd_T74 l0_3 x48_3).f1.f1), .int .i64 ((rd_T74 l0_3 x48_3).f1.f2), .int .i64 0]) ?_ 4 _ rfl; (with_reducible repeat (first | refine blk_drewN ?_ _ | refine blk_drew ?_ | refine blk_alloc ?_ _)); refine blk_put (cs := #[.slice A163_0 ((rd_T74 l0_3 x48_3).f0).length c163_0, .int .i64 ((rd_T74 l0_3 x48_3).f1.f0), .int .i64 ((rd_T74 l0_3 x48_3).f1.f1), .int .i64 0, .int .i64 0]) ?_ 3 _ rfl; (with_reducible repeat (first | refine blk_drewN ?_ _ | refine blk_drew ?_ | refine blk_alloc ?_ _)); refine blk_put (cs := #[.slice A163_0 ((rd_T74 l0_3 x48_3).f0).length c163_0, .int .i64 ((rd_T74 l0_3 x48_3).f1.f0), .int .i64 0, .int .i64 0, .int .i64 0]) ?_ 2 _ rfl; (with_reducible repeat (first | refine blk_drewN ?_ _ | refine blk_drew ?_ | refine blk_alloc ?_ _)); refine blk_put (cs := #[.slice A163_0 ((rd_T74 l0_3 x48_3).f0).length c163_0, .int .i64 0, .int .i64 0, .int .i64 0, .int .i64 0]) ?_ 1 _ rfl; (with_reducible repeat (first | refine blk_drewN ?_ _ | refine blk_drew ?_ | refine blk_alloc ?_ _)); refine blk_put (cs := #[.slice none 0 0, .int .i64 0, .int .i64 0, .int .i64 0, .int .i64 0]) ?_ 0 _ rfl; (with_reducible repeat (first | refine blk_drewN ?_ _ | refine blk_drew ?_ | refine blk_alloc ?_ _)); exact BK164.out) hb); have n2_ := Aside0.mk (below_step (by repeat (first | (with_reducible first | exact HB.out | apply below_alloc | apply pw_below_drewN | apply below_drew1 | refine below_set ?_ GE161.out | refine below_set ?_ GE164.out) | exact HB.out)) hb); clear BK161; clear BK164; clear HB; have BK161 := n0_; have BK164 := n1_; have HB := n2_; clear n0_ n1_ n2_; (try clear hb); (try clear hb2); (try clear hk); (try clear hi)))
                                  go_ret
                                  exact ⟨by first | rfl | (simp [errW_none, errW_some] <;> rfl) | (simp [*, errW_none, errW_some] <;> rfl), by repeat (first | (with_reducible first | exact HB.out | apply below_alloc | apply pw_below_drewN | apply below_drew1 | refine below_set ?_ GE161.out | refine below_set ?_ GE164.out) | exact HB.out)⟩
                              · rw [if_neg c29] at H
                                exact absurd H (by simp)
                            · rw [if_neg c28] at H
                              exact absurd H (by simp)
                          · rw [if_neg c27] at H
                            have c27b0 : decide (x48_3 < (l0_3.length : Int)) = false := decide_eq_false c27
                            clear c27
                            obtain rfl := Option.some.inj H
                            go_wp2
                            go_ret
                            exact ⟨by first | rfl | (simp [errW_none, errW_some] <;> rfl) | (simp [*, errW_none, errW_some] <;> rfl), by repeat (first | (with_reducible first | exact HB.out | apply below_alloc | apply pw_below_drewN | apply below_drew1 | refine below_set ?_ GE161.out) | exact HB.out)⟩
end Go.Proofs.Ytihnbkoeaaepiaa.PMachineCheck
