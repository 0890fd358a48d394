/- For every function, instruction and terminator, all functions return what the reference implementation returns. No condition. -/
import Derived.Test.YtndbpljldmnkcaaZSourceMatchesReference21
import Derived.Test.YtndbpljldmnkcaaZSourceMatchesReference25
namespace Go.Proofs.Ytndbpljldmnkcaa.PSourceMatchesReference
open Go.RowKit Go.Proofs.YtndbpljldmnkcaaW.PrintWords Go.Proofs.YtndbpljldmnkcaaW.PrintLast Go.Proofs.YtndbpljldmnkcaaW.PrintMore
attribute [local go_sem] max2_int min2_int max_two min_two max_three min_three max_four min_four   
set_option linter.unusedVariables false
set_option linter.unusedSimpArgs false
mutual
def regcertref07_Instr.j0 : Nat → Int → Bool → Int → Int → Int → Int → Int → Option (Int)
  | 0, _, _, _, _, _, _, _ => none
  | k + 1, x1, x12, x183000, x183001, x183002, x183003, x183004 => if x12 = true then (some 8) else ((regcertref05_UsesD.f x183000).bind fun t183 => (if t183 = true then ((regcertref07_in.f x183001 x1).bind fun t184 => (if t184 = true then ((regcertref05_UsesA.f x183000).bind fun t185 => (if t185 = true then ((regcertref07_in.f x183002 x1).bind fun t186 => (if t186 = true then ((regcertref05_UsesB.f x183000).bind fun t187 => (if t187 = true then ((regcertref07_in.f x183003 x1).bind fun t188 => (regcertref07_Instr.j1 k (!t188) x183000 x183001 x183002 x183003 x183004)) else (regcertref07_Instr.j1 k false x183000 x183001 x183002 x183003 x183004))) else (regcertref07_Instr.j1 k true x183000 x183001 x183002 x183003 x183004))) else ((regcertref05_UsesB.f x183000).bind fun t189 => (if t189 = true then ((regcertref07_in.f x183003 x1).bind fun t190 => (regcertref07_Instr.j1 k (!t190) x183000 x183001 x183002 x183003 x183004)) else (regcertref07_Instr.j1 k false x183000 x183001 x183002 x183003 x183004))))) else (regcertref07_Instr.j1 k true x183000 x183001 x183002 x183003 x183004))) else ((regcertref05_UsesA.f x183000).bind fun t191 => (if t191 = true then ((regcertref07_in.f x183002 x1).bind fun t192 => (if t192 = true then ((regcertref05_UsesB.f x183000).bind fun t193 => (if t193 = true then ((regcertref07_in.f x183003 x1).bind fun t194 => (regcertref07_Instr.j1 k (!t194) x183000 x183001 x183002 x183003 x183004)) else (regcertref07_Instr.j1 k false x183000 x183001 x183002 x183003 x183004))) else (regcertref07_Instr.j1 k true x183000 x183001 x183002 x183003 x183004))) else ((regcertref05_UsesB.f x183000).bind fun t195 => (if t195 = true then ((regcertref07_in.f x183003 x1).bind fun t196 => (regcertref07_Instr.j1 k (!t196) x183000 x183001 x183002 x183003 x183004)) else (regcertref07_Instr.j1 k false x183000 x183001 x183002 x183003 x183004)))))))
def regcertref07_Instr.j1 : Nat → Bool → Int → Int → Int → Int → Int → Option (Int)
  | 0, _, _, _, _, _, _ => none
  | k + 1, x46, x183000, x183001, x183002, x183003, x183004 => if x46 = true then (some 9) else ((regcertref05_UsesD.f x183000).bind fun t197 => (if t197 = true then ((regcertref05_UsesA.f x183000).bind fun t198 => (if t198 = true then ((regcertref05_UsesB.f x183000).bind fun t199 => (if t199 = true then (if x183000 = 1 then (some 0) else (if x183004 = 0 then (some 0) else (some 12))) else (if x183003 = 0 then (if x183000 = 1 then (some 0) else (if x183004 = 0 then (some 0) else (some 12))) else (some 12)))) else (if x183002 = 0 then ((regcertref05_UsesB.f x183000).bind fun t200 => (if t200 = true then (if x183000 = 1 then (some 0) else (if x183004 = 0 then (some 0) else (some 12))) else (if x183003 = 0 then (if x183000 = 1 then (some 0) else (if x183004 = 0 then (some 0) else (some 12))) else (some 12)))) else (some 12)))) else (if x183001 = 0 then ((regcertref05_UsesA.f x183000).bind fun t201 => (if t201 = true then ((regcertref05_UsesB.f x183000).bind fun t202 => (if t202 = true then (if x183000 = 1 then (some 0) else (if x183004 = 0 then (some 0) else (some 12))) else (if x183003 = 0 then (if x183000 = 1 then (some 0) else (if x183004 = 0 then (some 0) else (some 12))) else (some 12)))) else (if x183002 = 0 then ((regcertref05_UsesB.f x183000).bind fun t203 => (if t203 = true then (if x183000 = 1 then (some 0) else (if x183004 = 0 then (some 0) else (some 12))) else (if x183003 = 0 then (if x183000 = 1 then (some 0) else (if x183004 = 0 then (some 0) else (some 12))) else (some 12)))) else (some 12)))) else (some 12))))
end
def regcertref07_Instr.f (k : Nat) (a0_0 : Int) (a0_1 : Int) (a0_2 : Int) (a0_3 : Int) (a0_4 : Int) (a1 : Int) : Option (Int) := if a0_0 < 1 then (regcertref07_Instr.j0 k a1 true a0_0 a0_1 a0_2 a0_3 a0_4) else (regcertref07_Instr.j0 k a1 (decide (a0_0 > 17)) a0_0 a0_1 a0_2 a0_3 a0_4)
theorem regcertref07_Instr.mono_l : ∀ k, (∀ y0 y1 y2 y3 y4 y5 y6, LeO (regcertref07_Instr.j0 k y0 y1 y2 y3 y4 y5 y6) (regcertref07_Instr.j0 (k + 1) y0 y1 y2 y3 y4 y5 y6)) ∧ (∀ y0 y1 y2 y3 y4 y5, LeO (regcertref07_Instr.j1 k y0 y1 y2 y3 y4 y5) (regcertref07_Instr.j1 (k + 1) y0 y1 y2 y3 y4 y5))
  | 0 => ⟨fun _ _ _ _ _ _ _ r h => by simp [regcertref07_Instr.j0] at h, fun _ _ _ _ _ _ r h => by simp [regcertref07_Instr.j1] at h⟩
  | k + 1 => by
    obtain ⟨ih0, ih1⟩ := regcertref07_Instr.mono_l k
    refine ⟨?_, ?_⟩
    · intro y0 y1 y2 y3 y4 y5 y6
      unfold regcertref07_Instr.j0
      repeat' first
      | (with_reducible exact ih0 _ _ _ _ _ _ _)
      | (with_reducible exact ih1 _ _ _ _ _ _)
      | (with_reducible exact LeO.refl _)
      | (with_reducible exact LeO.none _)
      | (with_reducible refine LeO.ite ?_ ?_)
      | (with_reducible refine LeO.bind ?_ (fun _ => ?_))
      | exact ih0 _ _ _ _ _ _ _
      | exact ih1 _ _ _ _ _ _
      | exact LeO.none _
      | refine LeO.ite ?_ ?_
      | refine LeO.bind ?_ (fun _ => ?_)
    · intro y0 y1 y2 y3 y4 y5
      unfold regcertref07_Instr.j1
      repeat' first
      | (with_reducible exact ih0 _ _ _ _ _ _ _)
      | (with_reducible exact ih1 _ _ _ _ _ _)
      | (with_reducible exact LeO.refl _)
      | (with_reducible exact LeO.none _)
      | (with_reducible refine LeO.ite ?_ ?_)
      | (with_reducible refine LeO.bind ?_ (fun _ => ?_))
      | exact ih0 _ _ _ _ _ _ _
      | exact ih1 _ _ _ _ _ _
      | exact LeO.none _
      | refine LeO.ite ?_ ?_
      | refine LeO.bind ?_ (fun _ => ?_)
theorem regcertref07_Instr.mono : ∀ a0 a1 a2 a3 a4 a5 k, LeO (regcertref07_Instr.f k a0 a1 a2 a3 a4 a5) (regcertref07_Instr.f (k + 1) a0 a1 a2 a3 a4 a5) := by
  intro a0 a1 a2 a3 a4 a5 k
  obtain ⟨ih0, ih1⟩ := regcertref07_Instr.mono_l k
  unfold regcertref07_Instr.f
  repeat' first
      | (with_reducible exact ih0 _ _ _ _ _ _ _)
      | (with_reducible exact ih1 _ _ _ _ _ _)
      | (with_reducible exact LeO.refl _)
      | (with_reducible exact LeO.none _)
      | (with_reducible refine LeO.ite ?_ ?_)
      | (with_reducible refine LeO.bind ?_ (fun _ => ?_))
      | exact ih0 _ _ _ _ _ _ _
      | exact ih1 _ _ _ _ _ _
      | exact LeO.none _
      | refine LeO.ite ?_ ?_
      | refine LeO.bind ?_ (fun _ => ?_)
set_option maxHeartbeats 8000000 in
set_option maxRecDepth 100000 in
theorem regcertref07_Instr.calls (k : Nat) (a0_0 : Int) (a0_1 : Int) (a0_2 : Int) (a0_3 : Int) (a0_4 : Int) (a1 : Int) (r : Int) (w : World) (h : regcertref07_Instr.f k a0_0 a0_1 a0_2 a0_3 a0_4 a1 = some r) :
    Calls Try.prog 31 #[.agg #[.int .i64 a0_0, .int .i64 a0_1, .int .i64 a0_2, .int .i64 a0_3, .int .i64 a0_4], .int .i64 a1] w fun e w' => e = .returned (.int .i64 r) ∧ Below w.heap.size w w' := by
  have hu52 := Try.underlying52
  have HB := Aside0.mk (Below.refl w.heap.size w)
  have H : (if a0_0 < 1 then (regcertref07_Instr.j0 k a1 true a0_0 a0_1 a0_2 a0_3 a0_4) else (regcertref07_Instr.j0 k a1 (decide (a0_0 > 17)) a0_0 a0_1 a0_2 a0_3 a0_4)) = some r := h
  clear h
  have HC3 := Aside0.mk H
  clear H
  go_enter Try.func31, Try.ntmps31
  go_upto_region 1 with (first | ((with_reducible refine gate_dst (N := 2) rfl ?_); refine box_event ?hg (N := 2) ?hd (cs := #[.int .i64 a0_0, .int .i64 a0_1, .int .i64 a0_2, .int .i64 a0_3, .int .i64 a0_4]) (t := 52) ?hr ?_; (case hd => rfl); (case hg => rfl); (case hr => first | (go_simp; done) | (go_simp; rfl)); intro gb182 hg w4 hbox hb; have n0_ := Aside0.mk (below_step (by repeat (first | (with_reducible first | exact HB.out | apply below_alloc | apply pw_below_drewN | apply below_drew1) | exact HB.out)) hb); have n1_ := Aside0.mk (hbox); have n2_ := Aside0.mk ((by rw [hg]; exact (below_size (by repeat (first | (with_reducible first | exact HB.out | apply below_alloc | apply pw_below_drewN | apply below_drew1) | exact HB.out))) : w.heap.size ≤ gb182)); have n3_ := Aside0.mk ((by rw [hg]; exact (below_size (by repeat (first | (with_reducible first | exact HB.out | apply below_alloc | apply pw_below_drewN | apply below_drew1) | exact HB.out))) : w.heap.size ≤ gb182)); clear HB; have HB := n0_; have BK182 := n1_; have GW182 := n2_; have GE182 := n3_; clear n0_ n1_ n2_ n3_; clear hb hbox hg))
  (try simp only [Act.put, List.setIfInBounds_toArray, List.set_cons_zero, List.set_cons_succ])
  go_cut [12] (fun v12 wc => ∃ (kq : Nat) (x12_2 : Bool), v12 = .bool x12_2 ∧ Aside0 (regcertref07_Instr.j0 kq a1 x12_2 a0_0 a0_1 a0_2 a0_3 a0_4 = some r) ∧ Aside0 (kq ≤ k) ∧ Aside0 (wc.heap[gb182]? = some (.cells #[.int .i64 a0_0, .int .i64 a0_1, .int .i64 a0_2, .int .i64 a0_3, .int .i64 a0_4] 52 (0, 0))) ∧ Aside0 (Below w.heap.size w wc))
  case first =>
    have H := HC3.out
    clear HC3
    by_cases c5 : a0_0 < 1
    · rw [if_pos c5] at H
      have c5b0 : decide (a0_0 < 1) = true := decide_eq_true c5
      clear c5
      (first | rw [c5b0] | (simp only [i64_w, i32_w]; rw [c5b0]) | skip)
      have H' := Aside0.mk H
      clear H
      have hcz6_0 : w4.cell? ⟨gb182, 0, none⟩ = some (.int .i64 a0_0) := (blk_cell BK182.out 0).trans rfl
      have hcz6_1 : w4.cell? ⟨gb182, 1, none⟩ = some (.int .i64 a0_1) := (blk_cell BK182.out 1).trans rfl
      have hcz6_2 : w4.cell? ⟨gb182, 2, none⟩ = some (.int .i64 a0_2) := (blk_cell BK182.out 2).trans rfl
      have hcz6_3 : w4.cell? ⟨gb182, 3, none⟩ = some (.int .i64 a0_3) := (blk_cell BK182.out 3).trans rfl
      have hcz6_4 : w4.cell? ⟨gb182, 4, none⟩ = some (.int .i64 a0_4) := (blk_cell BK182.out 4).trans rfl
      have hfz6_0 := blk_frozen BK182.out 0
      have hfz6_1 := blk_frozen BK182.out 1
      have hfz6_2 := blk_frozen BK182.out 2
      have hfz6_3 := blk_frozen BK182.out 3
      have hfz6_4 := blk_frozen BK182.out 4
      go_wp2
      go_meet
      case rel => exact ⟨_, (true), (by first | rfl | (simp; done) | (simp [*]; done)), H', ⟨by first | omega | exact Nat.le_refl _⟩, ⟨by (with_reducible repeat (first | refine blk_drewN ?_ _ | refine blk_drew ?_ | refine blk_alloc ?_ _)); exact BK182.out⟩, ⟨by repeat (first | (with_reducible first | exact HB.out | apply below_alloc | apply pw_below_drewN | apply below_drew1 | refine below_set ?_ GE182.out) | exact HB.out)⟩⟩
    · rw [if_neg c5] at H
      have c5b0 : decide (a0_0 < 1) = false := decide_eq_false c5
      clear c5
      (first | rw [c5b0] | (simp only [i64_w, i32_w]; rw [c5b0]) | skip)
      have H' := Aside0.mk H
      clear H
      have hcz7_0 : w4.cell? ⟨gb182, 0, none⟩ = some (.int .i64 a0_0) := (blk_cell BK182.out 0).trans rfl
      have hcz7_1 : w4.cell? ⟨gb182, 1, none⟩ = some (.int .i64 a0_1) := (blk_cell BK182.out 1).trans rfl
      have hcz7_2 : w4.cell? ⟨gb182, 2, none⟩ = some (.int .i64 a0_2) := (blk_cell BK182.out 2).trans rfl
      have hcz7_3 : w4.cell? ⟨gb182, 3, none⟩ = some (.int .i64 a0_3) := (blk_cell BK182.out 3).trans rfl
      have hcz7_4 : w4.cell? ⟨gb182, 4, none⟩ = some (.int .i64 a0_4) := (blk_cell BK182.out 4).trans rfl
      have hfz7_0 := blk_frozen BK182.out 0
      have hfz7_1 := blk_frozen BK182.out 1
      have hfz7_2 := blk_frozen BK182.out 2
      have hfz7_3 := blk_frozen BK182.out 3
      have hfz7_4 := blk_frozen BK182.out 4
      go_wp2
      go_meet
      case rel => exact ⟨_, (decide (a0_0 > 17)), (by first | rfl | (simp; done) | (simp [*]; done)), H', ⟨by first | omega | exact Nat.le_refl _⟩, ⟨by (with_reducible repeat (first | refine blk_drewN ?_ _ | refine blk_drew ?_ | refine blk_alloc ?_ _)); exact BK182.out⟩, ⟨by repeat (first | (with_reducible first | exact HB.out | apply below_alloc | apply pw_below_drewN | apply below_drew1 | refine below_set ?_ GE182.out) | exact HB.out)⟩⟩
  case rest =>
    clear HC3
    try clear p2
    try clear c3
    try clear c5
    try clear c5b0
    try clear hcz6_0
    try clear hcz6_1
    try clear hcz6_2
    try clear hcz6_3
    try clear hcz6_4
    try clear hcz7_0
    try clear hcz7_1
    try clear hcz7_2
    try clear hcz7_3
    try clear hcz7_4
    try clear hfz6_0
    try clear hfz6_1
    try clear hfz6_2
    try clear hfz6_3
    try clear hfz6_4
    try clear hfz7_0
    try clear hfz7_1
    try clear hfz7_2
    try clear hfz7_3
    try clear hfz7_4
    obtain ⟨kq, x12_2, rfl, HA, HJ2, BK182, HB⟩ := hcut
    cases kq with
    | zero => exact absurd HA.out (by simp [regcertref07_Instr.j0])
    | succ kj2 =>
      have H := HA.out
      clear HA
      simp only [regcertref07_Instr.j0] at H
      by_cases c8 : x12_2 = true
      · subst c8
        have H1 : (some 8) = some r := by rw [if_pos rfl] at H; exact H
        clear H
        have H := H1
        clear H1
        obtain rfl := Option.some.inj H
        go_wp2
        go_ret
        exact ⟨by first | rfl | (simp [errW_none, errW_some] <;> rfl) | (simp [*, errW_none, errW_some] <;> rfl), by repeat (first | (with_reducible first | exact HB.out | apply below_alloc | apply pw_below_drewN | apply below_drew1 | refine below_set ?_ GE182.out) | exact HB.out)⟩
      · replace c8 := Bool.eq_false_iff.mpr c8
        subst c8
        have H1 : ((regcertref05_UsesD.f a0_0).bind fun t183 => (if t183 = true then ((regcertref07_in.f a0_1 a1).bind fun t184 => (if t184 = true then ((regcertref05_UsesA.f a0_0).bind fun t185 => (if t185 = true then ((regcertref07_in.f a0_2 a1).bind fun t186 => (if t186 = true then ((regcertref05_UsesB.f a0_0).bind fun t187 => (if t187 = true then ((regcertref07_in.f a0_3 a1).bind fun t188 => (regcertref07_Instr.j1 kj2 (!t188) a0_0 a0_1 a0_2 a0_3 a0_4)) else (regcertref07_Instr.j1 kj2 false a0_0 a0_1 a0_2 a0_3 a0_4))) else (regcertref07_Instr.j1 kj2 true a0_0 a0_1 a0_2 a0_3 a0_4))) else ((regcertref05_UsesB.f a0_0).bind fun t189 => (if t189 = true then ((regcertref07_in.f a0_3 a1).bind fun t190 => (regcertref07_Instr.j1 kj2 (!t190) a0_0 a0_1 a0_2 a0_3 a0_4)) else (regcertref07_Instr.j1 kj2 false a0_0 a0_1 a0_2 a0_3 a0_4))))) else (regcertref07_Instr.j1 kj2 true a0_0 a0_1 a0_2 a0_3 a0_4))) else ((regcertref05_UsesA.f a0_0).bind fun t191 => (if t191 = true then ((regcertref07_in.f a0_2 a1).bind fun t192 => (if t192 = true then ((regcertref05_UsesB.f a0_0).bind fun t193 => (if t193 = true then ((regcertref07_in.f a0_3 a1).bind fun t194 => (regcertref07_Instr.j1 kj2 (!t194) a0_0 a0_1 a0_2 a0_3 a0_4)) else (regcertref07_Instr.j1 kj2 false a0_0 a0_1 a0_2 a0_3 a0_4))) else (regcertref07_Instr.j1 kj2 true a0_0 a0_1 a0_2 a0_3 a0_4))) else ((regcertref05_UsesB.f a0_0).bind fun t195 => (if t195 = true then ((regcertref07_in.f a0_3 a1).bind fun t196 => (regcertref07_Instr.j1 kj2 (!t196) a0_0 a0_1 a0_2 a0_3 a0_4)) else (regcertref07_Instr.j1 kj2 false a0_0 a0_1 a0_2 a0_3 a0_4))))))) = some r := by rw [if_neg (show ¬ (false = true) by decide)] at H; exact H
        clear H
        have H := H1
        clear H1
        have HC9 := Aside0.mk H
        clear H
        go_upto_region 3 with (fail)
        go_cut [46] (fun v46 wc => ∃ (kq : Nat) (x46_8 : Bool), v46 = .bool x46_8 ∧ Aside0 (regcertref07_Instr.j1 kq x46_8 a0_0 a0_1 a0_2 a0_3 a0_4 = some r) ∧ Aside0 (kq ≤ kj2) ∧ Aside0 (wc.heap[gb182]? = some (.cells #[.int .i64 a0_0, .int .i64 a0_1, .int .i64 a0_2, .int .i64 a0_3, .int .i64 a0_4] 52 (0, 0))) ∧ Aside0 (Below w.heap.size w wc))
        case first =>
          have H := HC9.out
          clear HC9
          replace H := Option.bind_eq_some_iff.mp H
          obtain ⟨t183, A100, H⟩ := H
          replace H : (if t183 = true then ((regcertref07_in.f a0_1 a1).bind fun t184 => (if t184 = true then ((regcertref05_UsesA.f a0_0).bind fun t185 => (if t185 = true then ((regcertref07_in.f a0_2 a1).bind fun t186 => (if t186 = true then ((regcertref05_UsesB.f a0_0).bind fun t187 => (if t187 = true then ((regcertref07_in.f a0_3 a1).bind fun t188 => (regcertref07_Instr.j1 kj2 (!t188) a0_0 a0_1 a0_2 a0_3 a0_4)) else (regcertref07_Instr.j1 kj2 false a0_0 a0_1 a0_2 a0_3 a0_4))) else (regcertref07_Instr.j1 kj2 true a0_0 a0_1 a0_2 a0_3 a0_4))) else ((regcertref05_UsesB.f a0_0).bind fun t189 => (if t189 = true then ((regcertref07_in.f a0_3 a1).bind fun t190 => (regcertref07_Instr.j1 kj2 (!t190) a0_0 a0_1 a0_2 a0_3 a0_4)) else (regcertref07_Instr.j1 kj2 false a0_0 a0_1 a0_2 a0_3 a0_4))))) else (regcertref07_Instr.j1 kj2 true a0_0 a0_1 a0_2 a0_3 a0_4))) else ((regcertref05_UsesA.f a0_0).bind fun t191 => (if t191 = true then ((regcertref07_in.f a0_2 a1).bind fun t192 => (if t192 = true then ((regcertref05_UsesB.f a0_0).bind fun t193 => (if t193 = true then ((regcertref07_in.f a0_3 a1).bind fun t194 => (regcertref07_Instr.j1 kj2 (!t194) a0_0 a0_1 a0_2 a0_3 a0_4)) else (regcertref07_Instr.j1 kj2 false a0_0 a0_1 a0_2 a0_3 a0_4))) else (regcertref07_Instr.j1 kj2 true a0_0 a0_1 a0_2 a0_3 a0_4))) else ((regcertref05_UsesB.f a0_0).bind fun t195 => (if t195 = true then ((regcertref07_in.f a0_3 a1).bind fun t196 => (regcertref07_Instr.j1 kj2 (!t196) a0_0 a0_1 a0_2 a0_3 a0_4)) else (regcertref07_Instr.j1 kj2 false a0_0 a0_1 a0_2 a0_3 a0_4)))))) = some r := H
          have A10 := Aside0.mk A100
          clear A100
          by_cases c11 : t183 = true
          · subst c11
            have H1 : ((regcertref07_in.f a0_1 a1).bind fun t184 => (if t184 = true then ((regcertref05_UsesA.f a0_0).bind fun t185 => (if t185 = true then ((regcertref07_in.f a0_2 a1).bind fun t186 => (if t186 = true then ((regcertref05_UsesB.f a0_0).bind fun t187 => (if t187 = true then ((regcertref07_in.f a0_3 a1).bind fun t188 => (regcertref07_Instr.j1 kj2 (!t188) a0_0 a0_1 a0_2 a0_3 a0_4)) else (regcertref07_Instr.j1 kj2 false a0_0 a0_1 a0_2 a0_3 a0_4))) else (regcertref07_Instr.j1 kj2 true a0_0 a0_1 a0_2 a0_3 a0_4))) else ((regcertref05_UsesB.f a0_0).bind fun t189 => (if t189 = true then ((regcertref07_in.f a0_3 a1).bind fun t190 => (regcertref07_Instr.j1 kj2 (!t190) a0_0 a0_1 a0_2 a0_3 a0_4)) else (regcertref07_Instr.j1 kj2 false a0_0 a0_1 a0_2 a0_3 a0_4))))) else (regcertref07_Instr.j1 kj2 true a0_0 a0_1 a0_2 a0_3 a0_4))) = some r := by rw [if_pos rfl] at H; exact H
            clear H
            have H := H1
            clear H1
            replace H := Option.bind_eq_some_iff.mp H
            obtain ⟨t184, A120, H⟩ := H
            replace H : (if t184 = true then ((regcertref05_UsesA.f a0_0).bind fun t185 => (if t185 = true then ((regcertref07_in.f a0_2 a1).bind fun t186 => (if t186 = true then ((regcertref05_UsesB.f a0_0).bind fun t187 => (if t187 = true then ((regcertref07_in.f a0_3 a1).bind fun t188 => (regcertref07_Instr.j1 kj2 (!t188) a0_0 a0_1 a0_2 a0_3 a0_4)) else (regcertref07_Instr.j1 kj2 false a0_0 a0_1 a0_2 a0_3 a0_4))) else (regcertref07_Instr.j1 kj2 true a0_0 a0_1 a0_2 a0_3 a0_4))) else ((regcertref05_UsesB.f a0_0).bind fun t189 => (if t189 = true then ((regcertref07_in.f a0_3 a1).bind fun t190 => (regcertref07_Instr.j1 kj2 (!t190) a0_0 a0_1 a0_2 a0_3 a0_4)) else (regcertref07_Instr.j1 kj2 false a0_0 a0_1 a0_2 a0_3 a0_4))))) else (regcertref07_Instr.j1 kj2 true a0_0 a0_1 a0_2 a0_3 a0_4)) = some r := H
            have A12 := Aside0.mk A120
            clear A120
            by_cases c13 : t184 = true
            · subst c13
              have H1 : ((regcertref05_UsesA.f a0_0).bind fun t185 => (if t185 = true then ((regcertref07_in.f a0_2 a1).bind fun t186 => (if t186 = true then ((regcertref05_UsesB.f a0_0).bind fun t187 => (if t187 = true then ((regcertref07_in.f a0_3 a1).bind fun t188 => (regcertref07_Instr.j1 kj2 (!t188) a0_0 a0_1 a0_2 a0_3 a0_4)) else (regcertref07_Instr.j1 kj2 false a0_0 a0_1 a0_2 a0_3 a0_4))) else (regcertref07_Instr.j1 kj2 true a0_0 a0_1 a0_2 a0_3 a0_4))) else ((regcertref05_UsesB.f a0_0).bind fun t189 => (if t189 = true then ((regcertref07_in.f a0_3 a1).bind fun t190 => (regcertref07_Instr.j1 kj2 (!t190) a0_0 a0_1 a0_2 a0_3 a0_4)) else (regcertref07_Instr.j1 kj2 false a0_0 a0_1 a0_2 a0_3 a0_4))))) = some r := by rw [if_pos rfl] at H; exact H
              clear H
              have H := H1
              clear H1
              replace H := Option.bind_eq_some_iff.mp H
              obtain ⟨t185, A140, H⟩ := H
              replace H : (if t185 = true then ((regcertref07_in.f a0_2 a1).bind fun t186 => (if t186 = true then ((regcertref05_UsesB.f a0_0).bind fun t187 => (if t187 = true then ((regcertref07_in.f a0_3 a1).bind fun t188 => (regcertref07_Instr.j1 kj2 (!t188) a0_0 a0_1 a0_2 a0_3 a0_4)) else (regcertref07_Instr.j1 kj2 false a0_0 a0_1 a0_2 a0_3 a0_4))) else (regcertref07_Instr.j1 kj2 true a0_0 a0_1 a0_2 a0_3 a0_4))) else ((regcertref05_UsesB.f a0_0).bind fun t189 => (if t189 = true then ((regcertref07_in.f a0_3 a1).bind fun t190 => (regcertref07_Instr.j1 kj2 (!t190) a0_0 a0_1 a0_2 a0_3 a0_4)) else (regcertref07_Instr.j1 kj2 false a0_0 a0_1 a0_2 a0_3 a0_4)))) = some r := H
              have A14 := Aside0.mk A140
              clear A140
              by_cases c15 : t185 = true
              · subst c15
                have H1 : ((regcertref07_in.f a0_2 a1).bind fun t186 => (if t186 = true then ((regcertref05_UsesB.f a0_0).bind fun t187 => (if t187 = true then ((regcertref07_in.f a0_3 a1).bind fun t188 => (regcertref07_Instr.j1 kj2 (!t188) a0_0 a0_1 a0_2 a0_3 a0_4)) else (regcertref07_Instr.j1 kj2 false a0_0 a0_1 a0_2 a0_3 a0_4))) else (regcertref07_Instr.j1 kj2 true a0_0 a0_1 a0_2 a0_3 a0_4))) = some r := by rw [if_pos rfl] at H; exact H
                clear H
                have H := H1
                clear H1
                replace H := Option.bind_eq_some_iff.mp H
                obtain ⟨t186, A160, H⟩ := H
                replace H : (if t186 = true then ((regcertref05_UsesB.f a0_0).bind fun t187 => (if t187 = true then ((regcertref07_in.f a0_3 a1).bind fun t188 => (regcertref07_Instr.j1 kj2 (!t188) a0_0 a0_1 a0_2 a0_3 a0_4)) else (regcertref07_Instr.j1 kj2 false a0_0 a0_1 a0_2 a0_3 a0_4))) else (regcertref07_Instr.j1 kj2 true a0_0 a0_1 a0_2 a0_3 a0_4)) = some r := H
                have A16 := Aside0.mk A160
                clear A160
                by_cases c17 : t186 = true
                · subst c17
                  have H1 : ((regcertref05_UsesB.f a0_0).bind fun t187 => (if t187 = true then ((regcertref07_in.f a0_3 a1).bind fun t188 => (regcertref07_Instr.j1 kj2 (!t188) a0_0 a0_1 a0_2 a0_3 a0_4)) else (regcertref07_Instr.j1 kj2 false a0_0 a0_1 a0_2 a0_3 a0_4))) = some r := by rw [if_pos rfl] at H; exact H
                  clear H
                  have H := H1
                  clear H1
                  replace H := Option.bind_eq_some_iff.mp H
                  obtain ⟨t187, A180, H⟩ := H
                  replace H : (if t187 = true then ((regcertref07_in.f a0_3 a1).bind fun t188 => (regcertref07_Instr.j1 kj2 (!t188) a0_0 a0_1 a0_2 a0_3 a0_4)) else (regcertref07_Instr.j1 kj2 false a0_0 a0_1 a0_2 a0_3 a0_4)) = some r := H
                  have A18 := Aside0.mk A180
                  clear A180
                  by_cases c19 : t187 = true
                  · subst c19
                    have H1 : ((regcertref07_in.f a0_3 a1).bind fun t188 => (regcertref07_Instr.j1 kj2 (!t188) a0_0 a0_1 a0_2 a0_3 a0_4)) = some r := by rw [if_pos rfl] at H; exact H
                    clear H
                    have H := H1
                    clear H1
                    replace H := Option.bind_eq_some_iff.mp H
                    obtain ⟨t188, A200, H⟩ := H
                    replace H : (regcertref07_Instr.j1 kj2 (!t188) a0_0 a0_1 a0_2 a0_3 a0_4) = some r := H
                    have A20 := Aside0.mk A200
                    clear A200
                    have H' := Aside0.mk H
                    clear H
                    have hcz21_0 : wc.cell? ⟨gb182, 0, none⟩ = some (.int .i64 a0_0) := (blk_cell BK182.out 0).trans rfl
                    have hcz21_1 : wc.cell? ⟨gb182, 1, none⟩ = some (.int .i64 a0_1) := (blk_cell BK182.out 1).trans rfl
                    have hcz21_2 : wc.cell? ⟨gb182, 2, none⟩ = some (.int .i64 a0_2) := (blk_cell BK182.out 2).trans rfl
                    have hcz21_3 : wc.cell? ⟨gb182, 3, none⟩ = some (.int .i64 a0_3) := (blk_cell BK182.out 3).trans rfl
                    have hcz21_4 : wc.cell? ⟨gb182, 4, none⟩ = some (.int .i64 a0_4) := (blk_cell BK182.out 4).trans rfl
                    have hfz21_0 := blk_frozen BK182.out 0
                    have hfz21_1 := blk_frozen BK182.out 1
                    have hfz21_2 := blk_frozen BK182.out 2
                    have hfz21_3 := blk_frozen BK182.out 3
                    have hfz21_4 := blk_frozen BK182.out 4
                    go_wp2_with (first | ((with_reducible refine gate_callee (f := 55) rfl ?_); refine goesL_ (some 15) rfl rfl Try.func55 (by kernel_rfl) rfl #[.int .i64 a0_0] rfl (by (try simp only [List.map_toArray, List.map_cons, List.map_nil]); first | done | rfl | (simp only [List.length_drop, List.length_take]; rfl)) ?_; (with_reducible refine (regcertref05_UsesD.calls a0_0 true _ A10.out).mono ?_); rintro e w' ⟨rfl, ⟨nd, rfl⟩⟩; refine ⟨_, rfl, ?_⟩) | (go_at_call 56; (with_reducible refine (regcertref07_in.calls a0_1 a1 true _ A12.out).mono ?_); rintro e w' ⟨rfl, ⟨nd, rfl⟩⟩) | (go_at_call 57; (with_reducible refine (regcertref05_UsesA.calls a0_0 true _ A14.out).mono ?_); rintro e w' ⟨rfl, ⟨nd, rfl⟩⟩) | (go_at_call 56; (with_reducible refine (regcertref07_in.calls a0_2 a1 true _ A16.out).mono ?_); rintro e w' ⟨rfl, ⟨nd, rfl⟩⟩) | (go_at_call 58; (with_reducible refine (regcertref05_UsesB.calls a0_0 true _ A18.out).mono ?_); rintro e w' ⟨rfl, ⟨nd, rfl⟩⟩) | (go_at_call 56; (with_reducible refine (regcertref07_in.calls a0_3 a1 t188 _ A20.out).mono ?_); rintro e w' ⟨rfl, ⟨nd, rfl⟩⟩))
                    go_meet
                    case rel => exact ⟨_, (!t188), (by first | rfl | (simp; done) | (simp [*]; done)), H', ⟨by have := HJ2.out; first | omega | exact Nat.le_refl _⟩, ⟨by (with_reducible repeat (first | refine blk_drewN ?_ _ | refine blk_drew ?_ | refine blk_alloc ?_ _)); exact BK182.out⟩, ⟨by repeat (first | (with_reducible first | exact HB.out | apply below_alloc | apply pw_below_drewN | apply below_drew1 | refine below_set ?_ GE182.out) | exact HB.out)⟩⟩
                  · replace c19 := Bool.eq_false_iff.mpr c19
                    subst c19
                    have H1 : (regcertref07_Instr.j1 kj2 false a0_0 a0_1 a0_2 a0_3 a0_4) = some r := by rw [if_neg (show ¬ (false = true) by decide)] at H; exact H
                    clear H
                    have H := H1
                    clear H1
                    have H' := Aside0.mk H
                    clear H
                    have hcz22_0 : wc.cell? ⟨gb182, 0, none⟩ = some (.int .i64 a0_0) := (blk_cell BK182.out 0).trans rfl
                    have hcz22_1 : wc.cell? ⟨gb182, 1, none⟩ = some (.int .i64 a0_1) := (blk_cell BK182.out 1).trans rfl
                    have hcz22_2 : wc.cell? ⟨gb182, 2, none⟩ = some (.int .i64 a0_2) := (blk_cell BK182.out 2).trans rfl
                    have hcz22_3 : wc.cell? ⟨gb182, 3, none⟩ = some (.int .i64 a0_3) := (blk_cell BK182.out 3).trans rfl
                    have hcz22_4 : wc.cell? ⟨gb182, 4, none⟩ = some (.int .i64 a0_4) := (blk_cell BK182.out 4).trans rfl
                    have hfz22_0 := blk_frozen BK182.out 0
                    have hfz22_1 := blk_frozen BK182.out 1
                    have hfz22_2 := blk_frozen BK182.out 2
                    have hfz22_3 := blk_frozen BK182.out 3
                    have hfz22_4 := blk_frozen BK182.out 4
                    go_wp2_with (first | ((with_reducible refine gate_callee (f := 55) rfl ?_); refine goesL_ (some 15) rfl rfl Try.func55 (by kernel_rfl) rfl #[.int .i64 a0_0] rfl (by (try simp only [List.map_toArray, List.map_cons, List.map_nil]); first | done | rfl | (simp only [List.length_drop, List.length_take]; rfl)) ?_; (with_reducible refine (regcertref05_UsesD.calls a0_0 true _ A10.out).mono ?_); rintro e w' ⟨rfl, ⟨nd, rfl⟩⟩; refine ⟨_, rfl, ?_⟩) | (go_at_call 56; (with_reducible refine (regcertref07_in.calls a0_1 a1 true _ A12.out).mono ?_); rintro e w' ⟨rfl, ⟨nd, rfl⟩⟩) | (go_at_call 57; (with_reducible refine (regcertref05_UsesA.calls a0_0 true _ A14.out).mono ?_); rintro e w' ⟨rfl, ⟨nd, rfl⟩⟩) | (go_at_call 56; (with_reducible refine (regcertref07_in.calls a0_2 a1 true _ A16.out).mono ?_); rintro e w' ⟨rfl, ⟨nd, rfl⟩⟩) | (go_at_call 58; (with_reducible refine (regcertref05_UsesB.calls a0_0 false _ A18.out).mono ?_); rintro e w' ⟨rfl, ⟨nd, rfl⟩⟩))
                    go_meet
                    case rel => exact ⟨_, (false), (by first | rfl | (simp; done) | (simp [*]; done)), H', ⟨by have := HJ2.out; first | omega | exact Nat.le_refl _⟩, ⟨by (with_reducible repeat (first | refine blk_drewN ?_ _ | refine blk_drew ?_ | refine blk_alloc ?_ _)); exact BK182.out⟩, ⟨by repeat (first | (with_reducible first | exact HB.out | apply below_alloc | apply pw_below_drewN | apply below_drew1 | refine below_set ?_ GE182.out) | exact HB.out)⟩⟩
                · replace c17 := Bool.eq_false_iff.mpr c17
                  subst c17
                  have H1 : (regcertref07_Instr.j1 kj2 true a0_0 a0_1 a0_2 a0_3 a0_4) = some r := by rw [if_neg (show ¬ (false = true) by decide)] at H; exact H
                  clear H
                  have H := H1
                  clear H1
                  have H' := Aside0.mk H
                  clear H
                  have hcz23_0 : wc.cell? ⟨gb182, 0, none⟩ = some (.int .i64 a0_0) := (blk_cell BK182.out 0).trans rfl
                  have hcz23_1 : wc.cell? ⟨gb182, 1, none⟩ = some (.int .i64 a0_1) := (blk_cell BK182.out 1).trans rfl
                  have hcz23_2 : wc.cell? ⟨gb182, 2, none⟩ = some (.int .i64 a0_2) := (blk_cell BK182.out 2).trans rfl
                  have hcz23_3 : wc.cell? ⟨gb182, 3, none⟩ = some (.int .i64 a0_3) := (blk_cell BK182.out 3).trans rfl
                  have hcz23_4 : wc.cell? ⟨gb182, 4, none⟩ = some (.int .i64 a0_4) := (blk_cell BK182.out 4).trans rfl
                  have hfz23_0 := blk_frozen BK182.out 0
                  have hfz23_1 := blk_frozen BK182.out 1
                  have hfz23_2 := blk_frozen BK182.out 2
                  have hfz23_3 := blk_frozen BK182.out 3
                  have hfz23_4 := blk_frozen BK182.out 4
                  go_wp2_with (first | ((with_reducible refine gate_callee (f := 55) rfl ?_); refine goesL_ (some 15) rfl rfl Try.func55 (by kernel_rfl) rfl #[.int .i64 a0_0] rfl (by (try simp only [List.map_toArray, List.map_cons, List.map_nil]); first | done | rfl | (simp only [List.length_drop, List.length_take]; rfl)) ?_; (with_reducible refine (regcertref05_UsesD.calls a0_0 true _ A10.out).mono ?_); rintro e w' ⟨rfl, ⟨nd, rfl⟩⟩; refine ⟨_, rfl, ?_⟩) | (go_at_call 56; (with_reducible refine (regcertref07_in.calls a0_1 a1 true _ A12.out).mono ?_); rintro e w' ⟨rfl, ⟨nd, rfl⟩⟩) | (go_at_call 57; (with_reducible refine (regcertref05_UsesA.calls a0_0 true _ A14.out).mono ?_); rintro e w' ⟨rfl, ⟨nd, rfl⟩⟩) | (go_at_call 56; (with_reducible refine (regcertref07_in.calls a0_2 a1 false _ A16.out).mono ?_); rintro e w' ⟨rfl, ⟨nd, rfl⟩⟩))
                  go_meet
                  case rel => exact ⟨_, (true), (by first | rfl | (simp; done) | (simp [*]; done)), H', ⟨by have := HJ2.out; first | omega | exact Nat.le_refl _⟩, ⟨by (with_reducible repeat (first | refine blk_drewN ?_ _ | refine blk_drew ?_ | refine blk_alloc ?_ _)); exact BK182.out⟩, ⟨by repeat (first | (with_reducible first | exact HB.out | apply below_alloc | apply pw_below_drewN | apply below_drew1 | refine below_set ?_ GE182.out) | exact HB.out)⟩⟩
              · replace c15 := Bool.eq_false_iff.mpr c15
                subst c15
                have H1 : ((regcertref05_UsesB.f a0_0).bind fun t189 => (if t189 = true then ((regcertref07_in.f a0_3 a1).bind fun t190 => (regcertref07_Instr.j1 kj2 (!t190) a0_0 a0_1 a0_2 a0_3 a0_4)) else (regcertref07_Instr.j1 kj2 false a0_0 a0_1 a0_2 a0_3 a0_4))) = some r := by rw [if_neg (show ¬ (false = true) by decide)] at H; exact H
                clear H
                have H := H1
                clear H1
                replace H := Option.bind_eq_some_iff.mp H
                obtain ⟨t189, A240, H⟩ := H
                replace H : (if t189 = true then ((regcertref07_in.f a0_3 a1).bind fun t190 => (regcertref07_Instr.j1 kj2 (!t190) a0_0 a0_1 a0_2 a0_3 a0_4)) else (regcertref07_Instr.j1 kj2 false a0_0 a0_1 a0_2 a0_3 a0_4)) = some r := H
                have A24 := Aside0.mk A240
                clear A240
                by_cases c25 : t189 = true
                · subst c25
                  have H1 : ((regcertref07_in.f a0_3 a1).bind fun t190 => (regcertref07_Instr.j1 kj2 (!t190) a0_0 a0_1 a0_2 a0_3 a0_4)) = some r := by rw [if_pos rfl] at H; exact H
                  clear H
                  have H := H1
                  clear H1
                  replace H := Option.bind_eq_some_iff.mp H
                  obtain ⟨t190, A260, H⟩ := H
                  replace H : (regcertref07_Instr.j1 kj2 (!t190) a0_0 a0_1 a0_2 a0_3 a0_4) = some r := H
                  have A26 := Aside0.mk A260
                  clear A260
                  have H' := Aside0.mk H
                  clear H
                  have hcz27_0 : wc.cell? ⟨gb182, 0, none⟩ = some (.int .i64 a0_0) := (blk_cell BK182.out 0).trans rfl
                  have hcz27_1 : wc.cell? ⟨gb182, 1, none⟩ = some (.int .i64 a0_1) := (blk_cell BK182.out 1).trans rfl
                  have hcz27_2 : wc.cell? ⟨gb182, 2, none⟩ = some (.int .i64 a0_2) := (blk_cell BK182.out 2).trans rfl
                  have hcz27_3 : wc.cell? ⟨gb182, 3, none⟩ = some (.int .i64 a0_3) := (blk_cell BK182.out 3).trans rfl
                  have hcz27_4 : wc.cell? ⟨gb182, 4, none⟩ = some (.int .i64 a0_4) := (blk_cell BK182.out 4).trans rfl
                  have hfz27_0 := blk_frozen BK182.out 0
                  have hfz27_1 := blk_frozen BK182.out 1
                  have hfz27_2 := blk_frozen BK182.out 2
                  have hfz27_3 := blk_frozen BK182.out 3
                  have hfz27_4 := blk_frozen BK182.out 4
                  go_wp2_with (first | ((with_reducible refine gate_callee (f := 55) rfl ?_); refine goesL_ (some 15) rfl rfl Try.func55 (by kernel_rfl) rfl #[.int .i64 a0_0] rfl (by (try simp only [List.map_toArray, List.map_cons, List.map_nil]); first | done | rfl | (simp only [List.length_drop, List.length_take]; rfl)) ?_; (with_reducible refine (regcertref05_UsesD.calls a0_0 true _ A10.out).mono ?_); rintro e w' ⟨rfl, ⟨nd, rfl⟩⟩; refine ⟨_, rfl, ?_⟩) | (go_at_call 56; (with_reducible refine (regcertref07_in.calls a0_1 a1 true _ A12.out).mono ?_); rintro e w' ⟨rfl, ⟨nd, rfl⟩⟩) | (go_at_call 57; (with_reducible refine (regcertref05_UsesA.calls a0_0 false _ A14.out).mono ?_); rintro e w' ⟨rfl, ⟨nd, rfl⟩⟩) | (go_at_call 58; (with_reducible refine (regcertref05_UsesB.calls a0_0 true _ A24.out).mono ?_); rintro e w' ⟨rfl, ⟨nd, rfl⟩⟩) | (go_at_call 56; (with_reducible refine (regcertref07_in.calls a0_3 a1 t190 _ A26.out).mono ?_); rintro e w' ⟨rfl, ⟨nd, rfl⟩⟩))
                  go_meet
                  case rel => exact ⟨_, (!t190), (by first | rfl | (simp; done) | (simp [*]; done)), H', ⟨by have := HJ2.out; first | omega | exact Nat.le_refl _⟩, ⟨by (with_reducible repeat (first | refine blk_drewN ?_ _ | refine blk_drew ?_ | refine blk_alloc ?_ _)); exact BK182.out⟩, ⟨by repeat (first | (with_reducible first | exact HB.out | apply below_alloc | apply pw_below_drewN | apply below_drew1 | refine below_set ?_ GE182.out) | exact HB.out)⟩⟩
                · replace c25 := Bool.eq_false_iff.mpr c25
                  subst c25
                  have H1 : (regcertref07_Instr.j1 kj2 false a0_0 a0_1 a0_2 a0_3 a0_4) = some r := by rw [if_neg (show ¬ (false = true) by decide)] at H; exact H
                  clear H
                  have H := H1
                  clear H1
                  have H' := Aside0.mk H
                  clear H
                  have hcz28_0 : wc.cell? ⟨gb182, 0, none⟩ = some (.int .i64 a0_0) := (blk_cell BK182.out 0).trans rfl
                  have hcz28_1 : wc.cell? ⟨gb182, 1, none⟩ = some (.int .i64 a0_1) := (blk_cell BK182.out 1).trans rfl
                  have hcz28_2 : wc.cell? ⟨gb182, 2, none⟩ = some (.int .i64 a0_2) := (blk_cell BK182.out 2).trans rfl
                  have hcz28_3 : wc.cell? ⟨gb182, 3, none⟩ = some (.int .i64 a0_3) := (blk_cell BK182.out 3).trans rfl
                  have hcz28_4 : wc.cell? ⟨gb182, 4, none⟩ = some (.int .i64 a0_4) := (blk_cell BK182.out 4).trans rfl
                  have hfz28_0 := blk_frozen BK182.out 0
                  have hfz28_1 := blk_frozen BK182.out 1
                  have hfz28_2 := blk_frozen BK182.out 2
                  have hfz28_3 := blk_frozen BK182.out 3
                  have hfz28_4 := blk_frozen BK182.out 4
                  go_wp2_with (first | ((with_reducible refine gate_callee (f := 55) rfl ?_); refine goesL_ (some 15) rfl rfl Try.func55 (by kernel_rfl) rfl #[.int .i64 a0_0] rfl (by (try simp only [List.map_toArray, List.map_cons, List.map_nil]); first | done | rfl | (simp only [List.length_drop, List.length_take]; rfl)) ?_; (with_reducible refine (regcertref05_UsesD.calls a0_0 true _ A10.out).mono ?_); rintro e w' ⟨rfl, ⟨nd, rfl⟩⟩; refine ⟨_, rfl, ?_⟩) | (go_at_call 56; (with_reducible refine (regcertref07_in.calls a0_1 a1 true _ A12.out).mono ?_); rintro e w' ⟨rfl, ⟨nd, rfl⟩⟩) | (go_at_call 57; (with_reducible refine (regcertref05_UsesA.calls a0_0 false _ A14.out).mono ?_); rintro e w' ⟨rfl, ⟨nd, rfl⟩⟩) | (go_at_call 58; (with_reducible refine (regcertref05_UsesB.calls a0_0 false _ A24.out).mono ?_); rintro e w' ⟨rfl, ⟨nd, rfl⟩⟩))
                  go_meet
                  case rel => exact ⟨_, (false), (by first | rfl | (simp; done) | (simp [*]; done)), H', ⟨by have := HJ2.out; first | omega | exact Nat.le_refl _⟩, ⟨by (with_reducible repeat (first | refine blk_drewN ?_ _ | refine blk_drew ?_ | refine blk_alloc ?_ _)); exact BK182.out⟩, ⟨by repeat (first | (with_reducible first | exact HB.out | apply below_alloc | apply pw_below_drewN | apply below_drew1 | refine below_set ?_ GE182.out) | exact HB.out)⟩⟩
            · replace c13 := Bool.eq_false_iff.mpr c13
              subst c13
              have H1 : (regcertref07_Instr.j1 kj2 true a0_0 a0_1 a0_2 a0_3 a0_4) = some r := by rw [if_neg (show ¬ (false = true) by decide)] at H; exact H
              clear H
              have H := H1
              clear H1
              have H' := Aside0.mk H
              clear H
              have hcz29_0 : wc.cell? ⟨gb182, 0, none⟩ = some (.int .i64 a0_0) := (blk_cell BK182.out 0).trans rfl
              have hcz29_1 : wc.cell? ⟨gb182, 1, none⟩ = some (.int .i64 a0_1) := (blk_cell BK182.out 1).trans rfl
              have hcz29_2 : wc.cell? ⟨gb182, 2, none⟩ = some (.int .i64 a0_2) := (blk_cell BK182.out 2).trans rfl
              have hcz29_3 : wc.cell? ⟨gb182, 3, none⟩ = some (.int .i64 a0_3) := (blk_cell BK182.out 3).trans rfl
              have hcz29_4 : wc.cell? ⟨gb182, 4, none⟩ = some (.int .i64 a0_4) := (blk_cell BK182.out 4).trans rfl
              have hfz29_0 := blk_frozen BK182.out 0
              have hfz29_1 := blk_frozen BK182.out 1
              have hfz29_2 := blk_frozen BK182.out 2
              have hfz29_3 := blk_frozen BK182.out 3
              have hfz29_4 := blk_frozen BK182.out 4
              go_wp2_with (first | ((with_reducible refine gate_callee (f := 55) rfl ?_); refine goesL_ (some 15) rfl rfl Try.func55 (by kernel_rfl) rfl #[.int .i64 a0_0] rfl (by (try simp only [List.map_toArray, List.map_cons, List.map_nil]); first | done | rfl | (simp only [List.length_drop, List.length_take]; rfl)) ?_; (with_reducible refine (regcertref05_UsesD.calls a0_0 true _ A10.out).mono ?_); rintro e w' ⟨rfl, ⟨nd, rfl⟩⟩; refine ⟨_, rfl, ?_⟩) | (go_at_call 56; (with_reducible refine (regcertref07_in.calls a0_1 a1 false _ A12.out).mono ?_); rintro e w' ⟨rfl, ⟨nd, rfl⟩⟩))
              go_meet
              case rel => exact ⟨_, (true), (by first | rfl | (simp; done) | (simp [*]; done)), H', ⟨by have := HJ2.out; first | omega | exact Nat.le_refl _⟩, ⟨by (with_reducible repeat (first | refine blk_drewN ?_ _ | refine blk_drew ?_ | refine blk_alloc ?_ _)); exact BK182.out⟩, ⟨by repeat (first | (with_reducible first | exact HB.out | apply below_alloc | apply pw_below_drewN | apply below_drew1 | refine below_set ?_ GE182.out) | exact HB.out)⟩⟩
          · replace c11 := Bool.eq_false_iff.mpr c11
            subst c11
            have H1 : ((regcertref05_UsesA.f a0_0).bind fun t191 => (if t191 = true then ((regcertref07_in.f a0_2 a1).bind fun t192 => (if t192 = true then ((regcertref05_UsesB.f a0_0).bind fun t193 => (if t193 = true then ((regcertref07_in.f a0_3 a1).bind fun t194 => (regcertref07_Instr.j1 kj2 (!t194) a0_0 a0_1 a0_2 a0_3 a0_4)) else (regcertref07_Instr.j1 kj2 false a0_0 a0_1 a0_2 a0_3 a0_4))) else (regcertref07_Instr.j1 kj2 true a0_0 a0_1 a0_2 a0_3 a0_4))) else ((regcertref05_UsesB.f a0_0).bind fun t195 => (if t195 = true then ((regcertref07_in.f a0_3 a1).bind fun t196 => (regcertref07_Instr.j1 kj2 (!t196) a0_0 a0_1 a0_2 a0_3 a0_4)) else (regcertref07_Instr.j1 kj2 false a0_0 a0_1 a0_2 a0_3 a0_4))))) = some r := by rw [if_neg (show ¬ (false = true) by decide)] at H; exact H
            clear H
            have H := H1
            clear H1
            replace H := Option.bind_eq_some_iff.mp H
            obtain ⟨t191, A300, H⟩ := H
            replace H : (if t191 = true then ((regcertref07_in.f a0_2 a1).bind fun t192 => (if t192 = true then ((regcertref05_UsesB.f a0_0).bind fun t193 => (if t193 = true then ((regcertref07_in.f a0_3 a1).bind fun t194 => (regcertref07_Instr.j1 kj2 (!t194) a0_0 a0_1 a0_2 a0_3 a0_4)) else (regcertref07_Instr.j1 kj2 false a0_0 a0_1 a0_2 a0_3 a0_4))) else (regcertref07_Instr.j1 kj2 true a0_0 a0_1 a0_2 a0_3 a0_4))) else ((regcertref05_UsesB.f a0_0).bind fun t195 => (if t195 = true then ((regcertref07_in.f a0_3 a1).bind fun t196 => (regcertref07_Instr.j1 kj2 (!t196) a0_0 a0_1 a0_2 a0_3 a0_4)) else (regcertref07_Instr.j1 kj2 false a0_0 a0_1 a0_2 a0_3 a0_4)))) = some r := H
            have A30 := Aside0.mk A300
            clear A300
            by_cases c31 : t191 = true
            · subst c31
              have H1 : ((regcertref07_in.f a0_2 a1).bind fun t192 => (if t192 = true then ((regcertref05_UsesB.f a0_0).bind fun t193 => (if t193 = true then ((regcertref07_in.f a0_3 a1).bind fun t194 => (regcertref07_Instr.j1 kj2 (!t194) a0_0 a0_1 a0_2 a0_3 a0_4)) else (regcertref07_Instr.j1 kj2 false a0_0 a0_1 a0_2 a0_3 a0_4))) else (regcertref07_Instr.j1 kj2 true a0_0 a0_1 a0_2 a0_3 a0_4))) = some r := by rw [if_pos rfl] at H; exact H
              clear H
              have H := H1
              clear H1
              replace H := Option.bind_eq_some_iff.mp H
              obtain ⟨t192, A320, H⟩ := H
              replace H : (if t192 = true then ((regcertref05_UsesB.f a0_0).bind fun t193 => (if t193 = true then ((regcertref07_in.f a0_3 a1).bind fun t194 => (regcertref07_Instr.j1 kj2 (!t194) a0_0 a0_1 a0_2 a0_3 a0_4)) else (regcertref07_Instr.j1 kj2 false a0_0 a0_1 a0_2 a0_3 a0_4))) else (regcertref07_Instr.j1 kj2 true a0_0 a0_1 a0_2 a0_3 a0_4)) = some r := H
              have A32 := Aside0.mk A320
              clear A320
              by_cases c33 : t192 = true
              · subst c33
                have H1 : ((regcertref05_UsesB.f a0_0).bind fun t193 => (if t193 = true then ((regcertref07_in.f a0_3 a1).bind fun t194 => (regcertref07_Instr.j1 kj2 (!t194) a0_0 a0_1 a0_2 a0_3 a0_4)) else (regcertref07_Instr.j1 kj2 false a0_0 a0_1 a0_2 a0_3 a0_4))) = some r := by rw [if_pos rfl] at H; exact H
                clear H
                have H := H1
                clear H1
                replace H := Option.bind_eq_some_iff.mp H
                obtain ⟨t193, A340, H⟩ := H
                replace H : (if t193 = true then ((regcertref07_in.f a0_3 a1).bind fun t194 => (regcertref07_Instr.j1 kj2 (!t194) a0_0 a0_1 a0_2 a0_3 a0_4)) else (regcertref07_Instr.j1 kj2 false a0_0 a0_1 a0_2 a0_3 a0_4)) = some r := H
                have A34 := Aside0.mk A340
                clear A340
                by_cases c35 : t193 = true
                · subst c35
                  have H1 : ((regcertref07_in.f a0_3 a1).bind fun t194 => (regcertref07_Instr.j1 kj2 (!t194) a0_0 a0_1 a0_2 a0_3 a0_4)) = some r := by rw [if_pos rfl] at H; exact H
                  clear H
                  have H := H1
                  clear H1
                  replace H := Option.bind_eq_some_iff.mp H
                  obtain ⟨t194, A360, H⟩ := H
                  replace H : (regcertref07_Instr.j1 kj2 (!t194) a0_0 a0_1 a0_2 a0_3 a0_4) = some r := H
                  have A36 := Aside0.mk A360
                  clear A360
                  have H' := Aside0.mk H
                  clear H
                  have hcz37_0 : wc.cell? ⟨gb182, 0, none⟩ = some (.int .i64 a0_0) := (blk_cell BK182.out 0).trans rfl
                  have hcz37_1 : wc.cell? ⟨gb182, 1, none⟩ = some (.int .i64 a0_1) := (blk_cell BK182.out 1).trans rfl
                  have hcz37_2 : wc.cell? ⟨gb182, 2, none⟩ = some (.int .i64 a0_2) := (blk_cell BK182.out 2).trans rfl
                  have hcz37_3 : wc.cell? ⟨gb182, 3, none⟩ = some (.int .i64 a0_3) := (blk_cell BK182.out 3).trans rfl
                  have hcz37_4 : wc.cell? ⟨gb182, 4, none⟩ = some (.int .i64 a0_4) := (blk_cell BK182.out 4).trans rfl
                  have hfz37_0 := blk_frozen BK182.out 0
                  have hfz37_1 := blk_frozen BK182.out 1
                  have hfz37_2 := blk_frozen BK182.out 2
                  have hfz37_3 := blk_frozen BK182.out 3
                  have hfz37_4 := blk_frozen BK182.out 4
                  go_wp2_with (first | ((with_reducible refine gate_callee (f := 55) rfl ?_); refine goesL_ (some 15) rfl rfl Try.func55 (by kernel_rfl) rfl #[.int .i64 a0_0] rfl (by (try simp only [List.map_toArray, List.map_cons, List.map_nil]); first | done | rfl | (simp only [List.length_drop, List.length_take]; rfl)) ?_; (with_reducible refine (regcertref05_UsesD.calls a0_0 false _ A10.out).mono ?_); rintro e w' ⟨rfl, ⟨nd, rfl⟩⟩; refine ⟨_, rfl, ?_⟩) | (go_at_call 57; (with_reducible refine (regcertref05_UsesA.calls a0_0 true _ A30.out).mono ?_); rintro e w' ⟨rfl, ⟨nd, rfl⟩⟩) | (go_at_call 56; (with_reducible refine (regcertref07_in.calls a0_2 a1 true _ A32.out).mono ?_); rintro e w' ⟨rfl, ⟨nd, rfl⟩⟩) | (go_at_call 58; (with_reducible refine (regcertref05_UsesB.calls a0_0 true _ A34.out).mono ?_); rintro e w' ⟨rfl, ⟨nd, rfl⟩⟩) | (go_at_call 56; (with_reducible refine (regcertref07_in.calls a0_3 a1 t194 _ A36.out).mono ?_); rintro e w' ⟨rfl, ⟨nd, rfl⟩⟩))
                  go_meet
                  case rel => exact ⟨_, (!t194), (by first | rfl | (simp; done) | (simp [*]; done)), H', ⟨by have := HJ2.out; first | omega | exact Nat.le_refl _⟩, ⟨by (with_reducible repeat (first | refine blk_drewN ?_ _ | refine blk_drew ?_ | refine blk_alloc ?_ _)); exact BK182.out⟩, ⟨by repeat (first | (with_reducible first | exact HB.out | apply below_alloc | apply pw_below_drewN | apply below_drew1 | refine below_set ?_ GE182.out) | exact HB.out)⟩⟩
                · replace c35 := Bool.eq_false_iff.mpr c35
                  subst c35
                  have H1 : (regcertref07_Instr.j1 kj2 false a0_0 a0_1 a0_2 a0_3 a0_4) = some r := by rw [if_neg (show ¬ (false = true) by decide)] at H; exact H
                  clear H
                  have H := H1
                  clear H1
                  have H' := Aside0.mk H
                  clear H
                  have hcz38_0 : wc.cell? ⟨gb182, 0, none⟩ = some (.int .i64 a0_0) := (blk_cell BK182.out 0).trans rfl
                  have hcz38_1 : wc.cell? ⟨gb182, 1, none⟩ = some (.int .i64 a0_1) := (blk_cell BK182.out 1).trans rfl
                  have hcz38_2 : wc.cell? ⟨gb182, 2, none⟩ = some (.int .i64 a0_2) := (blk_cell BK182.out 2).trans rfl
                  have hcz38_3 : wc.cell? ⟨gb182, 3, none⟩ = some (.int .i64 a0_3) := (blk_cell BK182.out 3).trans rfl
                  have hcz38_4 : wc.cell? ⟨gb182, 4, none⟩ = some (.int .i64 a0_4) := (blk_cell BK182.out 4).trans rfl
                  have hfz38_0 := blk_frozen BK182.out 0
                  have hfz38_1 := blk_frozen BK182.out 1
                  have hfz38_2 := blk_frozen BK182.out 2
                  have hfz38_3 := blk_frozen BK182.out 3
                  have hfz38_4 := blk_frozen BK182.out 4
                  go_wp2_with (first | ((with_reducible refine gate_callee (f := 55) rfl ?_); refine goesL_ (some 15) rfl rfl Try.func55 (by kernel_rfl) rfl #[.int .i64 a0_0] rfl (by (try simp only [List.map_toArray, List.map_cons, List.map_nil]); first | done | rfl | (simp only [List.length_drop, List.length_take]; rfl)) ?_; (with_reducible refine (regcertref05_UsesD.calls a0_0 false _ A10.out).mono ?_); rintro e w' ⟨rfl, ⟨nd, rfl⟩⟩; refine ⟨_, rfl, ?_⟩) | (go_at_call 57; (with_reducible refine (regcertref05_UsesA.calls a0_0 true _ A30.out).mono ?_); rintro e w' ⟨rfl, ⟨nd, rfl⟩⟩) | (go_at_call 56; (with_reducible refine (regcertref07_in.calls a0_2 a1 true _ A32.out).mono ?_); rintro e w' ⟨rfl, ⟨nd, rfl⟩⟩) | (go_at_call 58; (with_reducible refine (regcertref05_UsesB.calls a0_0 false _ A34.out).mono ?_); rintro e w' ⟨rfl, ⟨nd, rfl⟩⟩))
                  go_meet
                  case rel => exact ⟨_, (false), (by first | rfl | (simp; done) | (simp [*]; done)), H', ⟨by have := HJ2.out; first | omega | exact Nat.le_refl _⟩, ⟨by (with_reducible repeat (first | refine blk_drewN ?_ _ | refine blk_drew ?_ | refine blk_alloc ?_ _)); exact BK182.out⟩, ⟨by repeat (first | (with_reducible first | exact HB.out | apply below_alloc | apply pw_below_drewN | apply below_drew1 | refine below_set ?_ GE182.out) | exact HB.out)⟩⟩
              · replace c33 := Bool.eq_false_iff.mpr c33
                subst c33
                have H1 : (regcertref07_Instr.j1 kj2 true a0_0 a0_1 a0_2 a0_3 a0_4) = some r := by rw [if_neg (show ¬ (false = true) by decide)] at H; exact H
                clear H
                have H := H1
                clear H1
                have H' := Aside0.mk H
                clear H
                have hcz39_0 : wc.cell? ⟨gb182, 0, none⟩ = some (.int .i64 a0_0) := (blk_cell BK182.out 0).trans rfl
                have hcz39_1 : wc.cell? ⟨gb182, 1, none⟩ = some (.int .i64 a0_1) := (blk_cell BK182.out 1).trans rfl
                have hcz39_2 : wc.cell? ⟨gb182, 2, none⟩ = some (.int .i64 a0_2) := (blk_cell BK182.out 2).trans rfl
                have hcz39_3 : wc.cell? ⟨gb182, 3, none⟩ = some (.int .i64 a0_3) := (blk_cell BK182.out 3).trans rfl
                have hcz39_4 : wc.cell? ⟨gb182, 4, none⟩ = some (.int .i64 a0_4) := (blk_cell BK182.out 4).trans rfl
                have hfz39_0 := blk_frozen BK182.out 0
                have hfz39_1 := blk_frozen BK182.out 1
                have hfz39_2 := blk_frozen BK182.out 2
                have hfz39_3 := blk_frozen BK182.out 3
                have hfz39_4 := blk_frozen BK182.out 4
                go_wp2_with (first | ((with_reducible refine gate_callee (f := 55) rfl ?_); refine goesL_ (some 15) rfl rfl Try.func55 (by kernel_rfl) rfl #[.int .i64 a0_0] rfl (by (try simp only [List.map_toArray, List.map_cons, List.map_nil]); first | done | rfl | (simp only [List.length_drop, List.length_take]; rfl)) ?_; (with_reducible refine (regcertref05_UsesD.calls a0_0 false _ A10.out).mono ?_); rintro e w' ⟨rfl, ⟨nd, rfl⟩⟩; refine ⟨_, rfl, ?_⟩) | (go_at_call 57; (with_reducible refine (regcertref05_UsesA.calls a0_0 true _ A30.out).mono ?_); rintro e w' ⟨rfl, ⟨nd, rfl⟩⟩) | (go_at_call 56; (with_reducible refine (regcertref07_in.calls a0_2 a1 false _ A32.out).mono ?_); rintro e w' ⟨rfl, ⟨nd, rfl⟩⟩))
                go_meet
                case rel => exact ⟨_, (true), (by first | rfl | (simp; done) | (simp [*]; done)), H', ⟨by have := HJ2.out; first | omega | exact Nat.le_refl _⟩, ⟨by (with_reducible repeat (first | refine blk_drewN ?_ _ | refine blk_drew ?_ | refine blk_alloc ?_ _)); exact BK182.out⟩, ⟨by repeat (first | (with_reducible first | exact HB.out | apply below_alloc | apply pw_below_drewN | apply below_drew1 | refine below_set ?_ GE182.out) | exact HB.out)⟩⟩
            · replace c31 := Bool.eq_false_iff.mpr c31
              subst c31
              have H1 : ((regcertref05_UsesB.f a0_0).bind fun t195 => (if t195 = true then ((regcertref07_in.f a0_3 a1).bind fun t196 => (regcertref07_Instr.j1 kj2 (!t196) a0_0 a0_1 a0_2 a0_3 a0_4)) else (regcertref07_Instr.j1 kj2 false a0_0 a0_1 a0_2 a0_3 a0_4))) = some r := by rw [if_neg (show ¬ (false = true) by decide)] at H; exact H
              clear H
              have H := H1
              clear H1
              replace H := Option.bind_eq_some_iff.mp H
              obtain ⟨t195, A400, H⟩ := H
              replace H : (if t195 = true then ((regcertref07_in.f a0_3 a1).bind fun t196 => (regcertref07_Instr.j1 kj2 (!t196) a0_0 a0_1 a0_2 a0_3 a0_4)) else (regcertref07_Instr.j1 kj2 false a0_0 a0_1 a0_2 a0_3 a0_4)) = some r := H
              have A40 := Aside0.mk A400
              clear A400
              by_cases c41 : t195 = true
              · subst c41
                have H1 : ((regcertref07_in.f a0_3 a1).bind fun t196 => (regcertref07_Instr.j1 kj2 (!t196) a0_0 a0_1 a0_2 a0_3 a0_4)) = some r := by rw [if_pos rfl] at H; exact H
                clear H
                have H := H1
                clear H1
                replace H := Option.bind_eq_some_iff.mp H
                obtain ⟨t196, A420, H⟩ := H
                replace H : (regcertref07_Instr.j1 kj2 (!t196) a0_0 a0_1 a0_2 a0_3 a0_4) = some r := H
                have A42 := Aside0.mk A420
                clear A420
                have H' := Aside0.mk H
                clear H
                have hcz43_0 : wc.cell? ⟨gb182, 0, none⟩ = some (.int .i64 a0_0) := (blk_cell BK182.out 0).trans rfl
                have hcz43_1 : wc.cell? ⟨gb182, 1, none⟩ = some (.int .i64 a0_1) := (blk_cell BK182.out 1).trans rfl
                have hcz43_2 : wc.cell? ⟨gb182, 2, none⟩ = some (.int .i64 a0_2) := (blk_cell BK182.out 2).trans rfl
                have hcz43_3 : wc.cell? ⟨gb182, 3, none⟩ = some (.int .i64 a0_3) := (blk_cell BK182.out 3).trans rfl
                have hcz43_4 : wc.cell? ⟨gb182, 4, none⟩ = some (.int .i64 a0_4) := (blk_cell BK182.out 4).trans rfl
                have hfz43_0 := blk_frozen BK182.out 0
                have hfz43_1 := blk_frozen BK182.out 1
                have hfz43_2 := blk_frozen BK182.out 2
                have hfz43_3 := blk_frozen BK182.out 3
                have hfz43_4 := blk_frozen BK182.out 4
                go_wp2_with (first | ((with_reducible refine gate_callee (f := 55) rfl ?_); refine goesL_ (some 15) rfl rfl Try.func55 (by kernel_rfl) rfl #[.int .i64 a0_0] rfl (by (try simp only [List.map_toArray, List.map_cons, List.map_nil]); first | done | rfl | (simp only [List.length_drop, List.length_take]; rfl)) ?_; (with_reducible refine (regcertref05_UsesD.calls a0_0 false _ A10.out).mono ?_); rintro e w' ⟨rfl, ⟨nd, rfl⟩⟩; refine ⟨_, rfl, ?_⟩) | (go_at_call 57; (with_reducible refine (regcertref05_UsesA.calls a0_0 false _ A30.out).mono ?_); rintro e w' ⟨rfl, ⟨nd, rfl⟩⟩) | (go_at_call 58; (with_reducible refine (regcertref05_UsesB.calls a0_0 true _ A40.out).mono ?_); rintro e w' ⟨rfl, ⟨nd, rfl⟩⟩) | (go_at_call 56; (with_reducible refine (regcertref07_in.calls a0_3 a1 t196 _ A42.out).mono ?_); rintro e w' ⟨rfl, ⟨nd, rfl⟩⟩))
                go_meet
                case rel => exact ⟨_, (!t196), (by first | rfl | (simp; done) | (simp [*]; done)), H', ⟨by have := HJ2.out; first | omega | exact Nat.le_refl _⟩, ⟨by (with_reducible repeat (first | refine blk_drewN ?_ _ | refine blk_drew ?_ | refine blk_alloc ?_ _)); exact BK182.out⟩, ⟨by repeat (first | (with_reducible first | exact HB.out | apply below_alloc | apply pw_below_drewN | apply below_drew1 | refine below_set ?_ GE182.out) | exact HB.out)⟩⟩
              · replace c41 := Bool.eq_false_iff.mpr c41
                subst c41
                have H1 : (regcertref07_Instr.j1 kj2 false a0_0 a0_1 a0_2 a0_3 a0_4) = some r := by rw [if_neg (show ¬ (false = true) by decide)] at H; exact H
                clear H
                have H := H1
                clear H1
                have H' := Aside0.mk H
                clear H
                have hcz44_0 : wc.cell? ⟨gb182, 0, none⟩ = some (.int .i64 a0_0) := (blk_cell BK182.out 0).trans rfl
                have hcz44_1 : wc.cell? ⟨gb182, 1, none⟩ = some (.int .i64 a0_1) := (blk_cell BK182.out 1).trans rfl
                have hcz44_2 : wc.cell? ⟨gb182, 2, none⟩ = some (.int .i64 a0_2) := (blk_cell BK182.out 2).trans rfl
                have hcz44_3 : wc.cell? ⟨gb182, 3, none⟩ = some (.int .i64 a0_3) := (blk_cell BK182.out 3).trans rfl
                have hcz44_4 : wc.cell? ⟨gb182, 4, none⟩ = some (.int .i64 a0_4) := (blk_cell BK182.out 4).trans rfl
                have hfz44_0 := blk_frozen BK182.out 0
                have hfz44_1 := blk_frozen BK182.out 1
                have hfz44_2 := blk_frozen BK182.out 2
                have hfz44_3 := blk_frozen BK182.out 3
                have hfz44_4 := blk_frozen BK182.out 4
                go_wp2_with (first | ((with_reducible refine gate_callee (f := 55) rfl ?_); refine goesL_ (some 15) rfl rfl Try.func55 (by kernel_rfl) rfl #[.int .i64 a0_0] rfl (by (try simp only [List.map_toArray, List.map_cons, List.map_nil]); first | done | rfl | (simp only [List.length_drop, List.length_take]; rfl)) ?_; (with_reducible refine (regcertref05_UsesD.calls a0_0 false _ A10.out).mono ?_); rintro e w' ⟨rfl, ⟨nd, rfl⟩⟩; refine ⟨_, rfl, ?_⟩) | (go_at_call 57; (with_reducible refine (regcertref05_UsesA.calls a0_0 false _ A30.out).mono ?_); rintro e w' ⟨rfl, ⟨nd, rfl⟩⟩) | (go_at_call 58; (with_reducible refine (regcertref05_UsesB.calls a0_0 false _ A40.out).mono ?_); rintro e w' ⟨rfl, ⟨nd, rfl⟩⟩))
                go_meet
                case rel => exact ⟨_, (false), (by first | rfl | (simp; done) | (simp [*]; done)), H', ⟨by have := HJ2.out; first | omega | exact Nat.le_refl _⟩, ⟨by (with_reducible repeat (first | refine blk_drewN ?_ _ | refine blk_drew ?_ | refine blk_alloc ?_ _)); exact BK182.out⟩, ⟨by repeat (first | (with_reducible first | exact HB.out | apply below_alloc | apply pw_below_drewN | apply below_drew1 | refine below_set ?_ GE182.out) | exact HB.out)⟩⟩
        case rest =>
          clear HC9
          try clear c1
          try clear c2
          try clear p2
          try clear c3
          try clear c4
          try clear c5
          try clear c5b0
          try clear c8
          try clear c11
          try clear c13
          try clear c15
          try clear c17
          try clear c19
          try clear c25
          try clear c31
          try clear c33
          try clear c35
          try clear c41
          try clear hcz21_0
          try clear hcz21_1
          try clear hcz21_2
          try clear hcz21_3
          try clear hcz21_4
          try clear hcz22_0
          try clear hcz22_1
          try clear hcz22_2
          try clear hcz22_3
          try clear hcz22_4
          try clear hcz23_0
          try clear hcz23_1
          try clear hcz23_2
          try clear hcz23_3
          try clear hcz23_4
          try clear hcz27_0
          try clear hcz27_1
          try clear hcz27_2
          try clear hcz27_3
          try clear hcz27_4
          try clear hcz28_0
          try clear hcz28_1
          try clear hcz28_2
          try clear hcz28_3
          try clear hcz28_4
          try clear hcz29_0
          try clear hcz29_1
          try clear hcz29_2
          try clear hcz29_3
          try clear hcz29_4
          try clear hcz37_0
          try clear hcz37_1
          try clear hcz37_2
          try clear hcz37_3
          try clear hcz37_4
          try clear hcz38_0
          try clear hcz38_1
          try clear hcz38_2
          try clear hcz38_3
          try clear hcz38_4
          try clear hcz39_0
          try clear hcz39_1
          try clear hcz39_2
          try clear hcz39_3
          try clear hcz39_4
          try clear hcz43_0
          try clear hcz43_1
          try clear hcz43_2
          try clear hcz43_3
          try clear hcz43_4
          try clear hcz44_0
          try clear hcz44_1
          try clear hcz44_2
          try clear hcz44_3
          try clear hcz44_4
          try clear hcz6_0
          try clear hcz6_1
          try clear hcz6_2
          try clear hcz6_3
          try clear hcz6_4
          try clear hcz7_0
          try clear hcz7_1
          try clear hcz7_2
          try clear hcz7_3
          try clear hcz7_4
          try clear hfz21_0
          try clear hfz21_1
          try clear hfz21_2
          try clear hfz21_3
          try clear hfz21_4
          try clear hfz22_0
          try clear hfz22_1
          try clear hfz22_2
          try clear hfz22_3
          try clear hfz22_4
          try clear hfz23_0
          try clear hfz23_1
          try clear hfz23_2
          try clear hfz23_3
          try clear hfz23_4
          try clear hfz27_0
          try clear hfz27_1
          try clear hfz27_2
          try clear hfz27_3
          try clear hfz27_4
          try clear hfz28_0
          try clear hfz28_1
          try clear hfz28_2
          try clear hfz28_3
          try clear hfz28_4
          try clear hfz29_0
          try clear hfz29_1
          try clear hfz29_2
          try clear hfz29_3
          try clear hfz29_4
          try clear hfz37_0
          try clear hfz37_1
          try clear hfz37_2
          try clear hfz37_3
          try clear hfz37_4
          try clear hfz38_0
          try clear hfz38_1
          try clear hfz38_2
          try clear hfz38_3
          try clear hfz38_4
          try clear hfz39_0
          try clear hfz39_1
          try clear hfz39_2
          try clear hfz39_3
          try clear hfz39_4
          try clear hfz43_0
          try clear hfz43_1
          try clear hfz43_2
          try clear hfz43_3
          try clear hfz43_4
          try clear hfz44_0
          try clear hfz44_1
          try clear hfz44_2
          try clear hfz44_3
          try clear hfz44_4
          try clear hfz6_0
          try clear hfz6_1
          try clear hfz6_2
          try clear hfz6_3
          try clear hfz6_4
          try clear hfz7_0
          try clear hfz7_1
          try clear hfz7_2
          try clear hfz7_3
          try clear hfz7_4
          try clear p2
          obtain ⟨kq, x46_8, rfl, HA, HJ8, BK182, HB⟩ := hcut
          cases kq with
          | zero => exact absurd HA.out (by simp [regcertref07_Instr.j1])
          | succ kj8 =>
            have H := HA.out
            clear HA
            simp only [regcertref07_Instr.j1] at H
            by_cases c45 : x46_8 = true
            · subst c45
              have H1 : (some 9) = some r := by rw [if_pos rfl] at H; exact H
              clear H
              have H := H1
              clear H1
              obtain rfl := Option.some.inj H
              go_wp2
              go_ret
              exact ⟨by first | rfl | (simp [errW_none, errW_some] <;> rfl) | (simp [*, errW_none, errW_some] <;> rfl), by repeat (first | (with_reducible first | exact HB.out | apply below_alloc | apply pw_below_drewN | apply below_drew1 | refine below_set ?_ GE182.out) | exact HB.out)⟩
            · replace c45 := Bool.eq_false_iff.mpr c45
              subst c45
              have H1 : ((regcertref05_UsesD.f a0_0).bind fun t197 => (if t197 = true then ((regcertref05_UsesA.f a0_0).bind fun t198 => (if t198 = true then ((regcertref05_UsesB.f a0_0).bind fun t199 => (if t199 = true then (if a0_0 = 1 then (some 0) else (if a0_4 = 0 then (some 0) else (some 12))) else (if a0_3 = 0 then (if a0_0 = 1 then (some 0) else (if a0_4 = 0 then (some 0) else (some 12))) else (some 12)))) else (if a0_2 = 0 then ((regcertref05_UsesB.f a0_0).bind fun t200 => (if t200 = true then (if a0_0 = 1 then (some 0) else (if a0_4 = 0 then (some 0) else (some 12))) else (if a0_3 = 0 then (if a0_0 = 1 then (some 0) else (if a0_4 = 0 then (some 0) else (some 12))) else (some 12)))) else (some 12)))) else (if a0_1 = 0 then ((regcertref05_UsesA.f a0_0).bind fun t201 => (if t201 = true then ((regcertref05_UsesB.f a0_0).bind fun t202 => (if t202 = true then (if a0_0 = 1 then (some 0) else (if a0_4 = 0 then (some 0) else (some 12))) else (if a0_3 = 0 then (if a0_0 = 1 then (some 0) else (if a0_4 = 0 then (some 0) else (some 12))) else (some 12)))) else (if a0_2 = 0 then ((regcertref05_UsesB.f a0_0).bind fun t203 => (if t203 = true then (if a0_0 = 1 then (some 0) else (if a0_4 = 0 then (some 0) else (some 12))) else (if a0_3 = 0 then (if a0_0 = 1 then (some 0) else (if a0_4 = 0 then (some 0) else (some 12))) else (some 12)))) else (some 12)))) else (some 12)))) = some r := by rw [if_neg (show ¬ (false = true) by decide)] at H; exact H
              clear H
              have H := H1
              clear H1
              replace H := Option.bind_eq_some_iff.mp H
              obtain ⟨t197, A460, H⟩ := H
              replace H : (if t197 = true then ((regcertref05_UsesA.f a0_0).bind fun t198 => (if t198 = true then ((regcertref05_UsesB.f a0_0).bind fun t199 => (if t199 = true then (if a0_0 = 1 then (some 0) else (if a0_4 = 0 then (some 0) else (some 12))) else (if a0_3 = 0 then (if a0_0 = 1 then (some 0) else (if a0_4 = 0 then (some 0) else (some 12))) else (some 12)))) else (if a0_2 = 0 then ((regcertref05_UsesB.f a0_0).bind fun t200 => (if t200 = true then (if a0_0 = 1 then (some 0) else (if a0_4 = 0 then (some 0) else (some 12))) else (if a0_3 = 0 then (if a0_0 = 1 then (some 0) else (if a0_4 = 0 then (some 0) else (some 12))) else (some 12)))) else (some 12)))) else (if a0_1 = 0 then ((regcertref05_UsesA.f a0_0).bind fun t201 => (if t201 = true then ((regcertref05_UsesB.f a0_0).bind fun t202 => (if t202 = true then (if a0_0 = 1 then (some 0) else (if a0_4 = 0 then (some 0) else (some 12))) else (if a0_3 = 0 then (if a0_0 = 1 then (some 0) else (if a0_4 = 0 then (some 0) else (some 12))) else (some 12)))) else (if a0_2 = 0 then ((regcertref05_UsesB.f a0_0).bind fun t203 => (if t203 = true then (if a0_0 = 1 then (some 0) else (if a0_4 = 0 then (some 0) else (some 12))) else (if a0_3 = 0 then (if a0_0 = 1 then (some 0) else (if a0_4 = 0 then (some 0) else (some 12))) else (some 12)))) else (some 12)))) else (some 12))) = some r := H
              have A46 := Aside0.mk A460
              clear A460
              by_cases c47 : t197 = true
              · subst c47
                have H1 : ((regcertref05_UsesA.f a0_0).bind fun t198 => (if t198 = true then ((regcertref05_UsesB.f a0_0).bind fun t199 => (if t199 = true then (if a0_0 = 1 then (some 0) else (if a0_4 = 0 then (some 0) else (some 12))) else (if a0_3 = 0 then (if a0_0 = 1 then (some 0) else (if a0_4 = 0 then (some 0) else (some 12))) else (some 12)))) else (if a0_2 = 0 then ((regcertref05_UsesB.f a0_0).bind fun t200 => (if t200 = true then (if a0_0 = 1 then (some 0) else (if a0_4 = 0 then (some 0) else (some 12))) else (if a0_3 = 0 then (if a0_0 = 1 then (some 0) else (if a0_4 = 0 then (some 0) else (some 12))) else (some 12)))) else (some 12)))) = some r := by rw [if_pos rfl] at H; exact H
                clear H
                have H := H1
                clear H1
                replace H := Option.bind_eq_some_iff.mp H
                obtain ⟨t198, A480, H⟩ := H
                replace H : (if t198 = true then ((regcertref05_UsesB.f a0_0).bind fun t199 => (if t199 = true then (if a0_0 = 1 then (some 0) else (if a0_4 = 0 then (some 0) else (some 12))) else (if a0_3 = 0 then (if a0_0 = 1 then (some 0) else (if a0_4 = 0 then (some 0) else (some 12))) else (some 12)))) else (if a0_2 = 0 then ((regcertref05_UsesB.f a0_0).bind fun t200 => (if t200 = true then (if a0_0 = 1 then (some 0) else (if a0_4 = 0 then (some 0) else (some 12))) else (if a0_3 = 0 then (if a0_0 = 1 then (some 0) else (if a0_4 = 0 then (some 0) else (some 12))) else (some 12)))) else (some 12))) = some r := H
                have A48 := Aside0.mk A480
                clear A480
                by_cases c49 : t198 = true
                · subst c49
                  have H1 : ((regcertref05_UsesB.f a0_0).bind fun t199 => (if t199 = true then (if a0_0 = 1 then (some 0) else (if a0_4 = 0 then (some 0) else (some 12))) else (if a0_3 = 0 then (if a0_0 = 1 then (some 0) else (if a0_4 = 0 then (some 0) else (some 12))) else (some 12)))) = some r := by rw [if_pos rfl] at H; exact H
                  clear H
                  have H := H1
                  clear H1
                  replace H := Option.bind_eq_some_iff.mp H
                  obtain ⟨t199, A500, H⟩ := H
                  replace H : (if t199 = true then (if a0_0 = 1 then (some 0) else (if a0_4 = 0 then (some 0) else (some 12))) else (if a0_3 = 0 then (if a0_0 = 1 then (some 0) else (if a0_4 = 0 then (some 0) else (some 12))) else (some 12))) = some r := H
                  have A50 := Aside0.mk A500
                  clear A500
                  by_cases c51 : t199 = true
                  · subst c51
                    have H1 : (if a0_0 = 1 then (some 0) else (if a0_4 = 0 then (some 0) else (some 12))) = some r := by rw [if_pos rfl] at H; exact H
                    clear H
                    have H := H1
                    clear H1
                    by_cases c52 : a0_0 = 1
                    · rw [if_pos c52] at H
                      have c52b0 : (a0_0 == 1) = true := beq_iff_eq.mpr c52
                      have c52b1 : (a0_0 != 1) = false := bne_eq_false_iff_eq.mpr c52
                      clear c52
                      obtain rfl := Option.some.inj H
                      have hcz53_0 : wc.cell? ⟨gb182, 0, none⟩ = some (.int .i64 a0_0) := (blk_cell BK182.out 0).trans rfl
                      have hcz53_1 : wc.cell? ⟨gb182, 1, none⟩ = some (.int .i64 a0_1) := (blk_cell BK182.out 1).trans rfl
                      have hcz53_2 : wc.cell? ⟨gb182, 2, none⟩ = some (.int .i64 a0_2) := (blk_cell BK182.out 2).trans rfl
                      have hcz53_3 : wc.cell? ⟨gb182, 3, none⟩ = some (.int .i64 a0_3) := (blk_cell BK182.out 3).trans rfl
                      have hcz53_4 : wc.cell? ⟨gb182, 4, none⟩ = some (.int .i64 a0_4) := (blk_cell BK182.out 4).trans rfl
                      have hfz53_0 := blk_frozen BK182.out 0
                      have hfz53_1 := blk_frozen BK182.out 1
                      have hfz53_2 := blk_frozen BK182.out 2
                      have hfz53_3 := blk_frozen BK182.out 3
                      have hfz53_4 := blk_frozen BK182.out 4
                      go_wp2_with (first | ((with_reducible refine gate_callee (f := 55) rfl ?_); refine goesL_ (some 49) rfl rfl Try.func55 (by kernel_rfl) rfl #[.int .i64 a0_0] rfl (by (try simp only [List.map_toArray, List.map_cons, List.map_nil]); first | done | rfl | (simp only [List.length_drop, List.length_take]; rfl)) ?_; (with_reducible refine (regcertref05_UsesD.calls a0_0 true _ A46.out).mono ?_); rintro e w' ⟨rfl, ⟨nd, rfl⟩⟩; refine ⟨_, rfl, ?_⟩) | (go_at_call 57; (with_reducible refine (regcertref05_UsesA.calls a0_0 true _ A48.out).mono ?_); rintro e w' ⟨rfl, ⟨nd, rfl⟩⟩) | (go_at_call 58; (with_reducible refine (regcertref05_UsesB.calls a0_0 true _ A50.out).mono ?_); rintro e w' ⟨rfl, ⟨nd, rfl⟩⟩))
                      go_ret
                      exact ⟨by first | rfl | (simp [errW_none, errW_some] <;> rfl) | (simp [*, errW_none, errW_some] <;> rfl), by repeat (first | (with_reducible first | exact HB.out | apply below_alloc | apply pw_below_drewN | apply below_drew1 | refine below_set ?_ GE182.out) | exact HB.out)⟩
                    · rw [if_neg c52] at H
                      have c52b0 : (a0_0 == 1) = false := beq_eq_false_iff_ne.mpr c52
                      have c52b1 : (a0_0 != 1) = true := bne_iff_ne.mpr c52
                      by_cases c54 : a0_4 = 0
                      · rw [if_pos c54] at H
                        have c54b0 : (a0_4 == 0) = true := beq_iff_eq.mpr c54
                        have c54b1 : (a0_4 != 0) = false := bne_eq_false_iff_eq.mpr c54
                        clear c54
                        obtain rfl := Option.some.inj H
                        have hcz55_0 : wc.cell? ⟨gb182, 0, none⟩ = some (.int .i64 a0_0) := (blk_cell BK182.out 0).trans rfl
                        have hcz55_1 : wc.cell? ⟨gb182, 1, none⟩ = some (.int .i64 a0_1) := (blk_cell BK182.out 1).trans rfl
                        have hcz55_2 : wc.cell? ⟨gb182, 2, none⟩ = some (.int .i64 a0_2) := (blk_cell BK182.out 2).trans rfl
                        have hcz55_3 : wc.cell? ⟨gb182, 3, none⟩ = some (.int .i64 a0_3) := (blk_cell BK182.out 3).trans rfl
                        have hcz55_4 : wc.cell? ⟨gb182, 4, none⟩ = some (.int .i64 a0_4) := (blk_cell BK182.out 4).trans rfl
                        have hfz55_0 := blk_frozen BK182.out 0
                        have hfz55_1 := blk_frozen BK182.out 1
                        have hfz55_2 := blk_frozen BK182.out 2
                        have hfz55_3 := blk_frozen BK182.out 3
                        have hfz55_4 := blk_frozen BK182.out 4
                        go_wp2_with (first | ((with_reducible refine gate_callee (f := 55) rfl ?_); refine goesL_ (some 49) rfl rfl Try.func55 (by kernel_rfl) rfl #[.int .i64 a0_0] rfl (by (try simp only [List.map_toArray, List.map_cons, List.map_nil]); first | done | rfl | (simp only [List.length_drop, List.length_take]; rfl)) ?_; (with_reducible refine (regcertref05_UsesD.calls a0_0 true _ A46.out).mono ?_); rintro e w' ⟨rfl, ⟨nd, rfl⟩⟩; refine ⟨_, rfl, ?_⟩) | (go_at_call 57; (with_reducible refine (regcertref05_UsesA.calls a0_0 true _ A48.out).mono ?_); rintro e w' ⟨rfl, ⟨nd, rfl⟩⟩) | (go_at_call 58; (with_reducible refine (regcertref05_UsesB.calls a0_0 true _ A50.out).mono ?_); rintro e w' ⟨rfl, ⟨nd, rfl⟩⟩))
                        go_ret
                        exact ⟨by first | rfl | (simp [errW_none, errW_some] <;> rfl) | (simp [*, errW_none, errW_some] <;> rfl), by repeat (first | (with_reducible first | exact HB.out | apply below_alloc | apply pw_below_drewN | apply below_drew1 | refine below_set ?_ GE182.out) | exact HB.out)⟩
                      · rw [if_neg c54] at H
                        have c54b0 : (a0_4 == 0) = false := beq_eq_false_iff_ne.mpr c54
                        have c54b1 : (a0_4 != 0) = true := bne_iff_ne.mpr c54
                        obtain rfl := Option.some.inj H
                        have hcz56_0 : wc.cell? ⟨gb182, 0, none⟩ = some (.int .i64 a0_0) := (blk_cell BK182.out 0).trans rfl
                        have hcz56_1 : wc.cell? ⟨gb182, 1, none⟩ = some (.int .i64 a0_1) := (blk_cell BK182.out 1).trans rfl
                        have hcz56_2 : wc.cell? ⟨gb182, 2, none⟩ = some (.int .i64 a0_2) := (blk_cell BK182.out 2).trans rfl
                        have hcz56_3 : wc.cell? ⟨gb182, 3, none⟩ = some (.int .i64 a0_3) := (blk_cell BK182.out 3).trans rfl
                        have hcz56_4 : wc.cell? ⟨gb182, 4, none⟩ = some (.int .i64 a0_4) := (blk_cell BK182.out 4).trans rfl
                        have hfz56_0 := blk_frozen BK182.out 0
                        have hfz56_1 := blk_frozen BK182.out 1
                        have hfz56_2 := blk_frozen BK182.out 2
                        have hfz56_3 := blk_frozen BK182.out 3
                        have hfz56_4 := blk_frozen BK182.out 4
                        go_wp2_with (first | ((with_reducible refine gate_callee (f := 55) rfl ?_); refine goesL_ (some 49) rfl rfl Try.func55 (by kernel_rfl) rfl #[.int .i64 a0_0] rfl (by (try simp only [List.map_toArray, List.map_cons, List.map_nil]); first | done | rfl | (simp only [List.length_drop, List.length_take]; rfl)) ?_; (with_reducible refine (regcertref05_UsesD.calls a0_0 true _ A46.out).mono ?_); rintro e w' ⟨rfl, ⟨nd, rfl⟩⟩; refine ⟨_, rfl, ?_⟩) | (go_at_call 57; (with_reducible refine (regcertref05_UsesA.calls a0_0 true _ A48.out).mono ?_); rintro e w' ⟨rfl, ⟨nd, rfl⟩⟩) | (go_at_call 58; (with_reducible refine (regcertref05_UsesB.calls a0_0 true _ A50.out).mono ?_); rintro e w' ⟨rfl, ⟨nd, rfl⟩⟩))
                        go_ret
                        exact ⟨by first | rfl | (simp [errW_none, errW_some] <;> rfl) | (simp [*, errW_none, errW_some] <;> rfl), by repeat (first | (with_reducible first | exact HB.out | apply below_alloc | apply pw_below_drewN | apply below_drew1 | refine below_set ?_ GE182.out) | exact HB.out)⟩
                  · replace c51 := Bool.eq_false_iff.mpr c51
                    subst c51
                    have H1 : (if a0_3 = 0 then (if a0_0 = 1 then (some 0) else (if a0_4 = 0 then (some 0) else (some 12))) else (some 12)) = some r := by rw [if_neg (show ¬ (false = true) by decide)] at H; exact H
                    clear H
                    have H := H1
                    clear H1
                    by_cases c57 : a0_3 = 0
                    · rw [if_pos c57] at H
                      have c57b0 : (a0_3 == 0) = true := beq_iff_eq.mpr c57
                      have c57b1 : (a0_3 != 0) = false := bne_eq_false_iff_eq.mpr c57
                      clear c57
                      by_cases c58 : a0_0 = 1
                      · rw [if_pos c58] at H
                        have c58b0 : (a0_0 == 1) = true := beq_iff_eq.mpr c58
                        have c58b1 : (a0_0 != 1) = false := bne_eq_false_iff_eq.mpr c58
                        clear c58
                        obtain rfl := Option.some.inj H
                        have hcz59_0 : wc.cell? ⟨gb182, 0, none⟩ = some (.int .i64 a0_0) := (blk_cell BK182.out 0).trans rfl
                        have hcz59_1 : wc.cell? ⟨gb182, 1, none⟩ = some (.int .i64 a0_1) := (blk_cell BK182.out 1).trans rfl
                        have hcz59_2 : wc.cell? ⟨gb182, 2, none⟩ = some (.int .i64 a0_2) := (blk_cell BK182.out 2).trans rfl
                        have hcz59_3 : wc.cell? ⟨gb182, 3, none⟩ = some (.int .i64 a0_3) := (blk_cell BK182.out 3).trans rfl
                        have hcz59_4 : wc.cell? ⟨gb182, 4, none⟩ = some (.int .i64 a0_4) := (blk_cell BK182.out 4).trans rfl
                        have hfz59_0 := blk_frozen BK182.out 0
                        have hfz59_1 := blk_frozen BK182.out 1
                        have hfz59_2 := blk_frozen BK182.out 2
                        have hfz59_3 := blk_frozen BK182.out 3
                        have hfz59_4 := blk_frozen BK182.out 4
                        go_wp2_with (first | ((with_reducible refine gate_callee (f := 55) rfl ?_); refine goesL_ (some 49) rfl rfl Try.func55 (by kernel_rfl) rfl #[.int .i64 a0_0] rfl (by (try simp only [List.map_toArray, List.map_cons, List.map_nil]); first | done | rfl | (simp only [List.length_drop, List.length_take]; rfl)) ?_; (with_reducible refine (regcertref05_UsesD.calls a0_0 true _ A46.out).mono ?_); rintro e w' ⟨rfl, ⟨nd, rfl⟩⟩; refine ⟨_, rfl, ?_⟩) | (go_at_call 57; (with_reducible refine (regcertref05_UsesA.calls a0_0 true _ A48.out).mono ?_); rintro e w' ⟨rfl, ⟨nd, rfl⟩⟩) | (go_at_call 58; (with_reducible refine (regcertref05_UsesB.calls a0_0 false _ A50.out).mono ?_); rintro e w' ⟨rfl, ⟨nd, rfl⟩⟩))
                        go_ret
                        exact ⟨by first | rfl | (simp [errW_none, errW_some] <;> rfl) | (simp [*, errW_none, errW_some] <;> rfl), by repeat (first | (with_reducible first | exact HB.out | apply below_alloc | apply pw_below_drewN | apply below_drew1 | refine below_set ?_ GE182.out) | exact HB.out)⟩
                      · rw [if_neg c58] at H
                        have c58b0 : (a0_0 == 1) = false := beq_eq_false_iff_ne.mpr c58
                        have c58b1 : (a0_0 != 1) = true := bne_iff_ne.mpr c58
                        by_cases c60 : a0_4 = 0
                        · rw [if_pos c60] at H
                          have c60b0 : (a0_4 == 0) = true := beq_iff_eq.mpr c60
                          have c60b1 : (a0_4 != 0) = false := bne_eq_false_iff_eq.mpr c60
                          clear c60
                          obtain rfl := Option.some.inj H
                          have hcz61_0 : wc.cell? ⟨gb182, 0, none⟩ = some (.int .i64 a0_0) := (blk_cell BK182.out 0).trans rfl
                          have hcz61_1 : wc.cell? ⟨gb182, 1, none⟩ = some (.int .i64 a0_1) := (blk_cell BK182.out 1).trans rfl
                          have hcz61_2 : wc.cell? ⟨gb182, 2, none⟩ = some (.int .i64 a0_2) := (blk_cell BK182.out 2).trans rfl
                          have hcz61_3 : wc.cell? ⟨gb182, 3, none⟩ = some (.int .i64 a0_3) := (blk_cell BK182.out 3).trans rfl
                          have hcz61_4 : wc.cell? ⟨gb182, 4, none⟩ = some (.int .i64 a0_4) := (blk_cell BK182.out 4).trans rfl
                          have hfz61_0 := blk_frozen BK182.out 0
                          have hfz61_1 := blk_frozen BK182.out 1
                          have hfz61_2 := blk_frozen BK182.out 2
                          have hfz61_3 := blk_frozen BK182.out 3
                          have hfz61_4 := blk_frozen BK182.out 4
                          go_wp2_with (first | ((with_reducible refine gate_callee (f := 55) rfl ?_); refine goesL_ (some 49) rfl rfl Try.func55 (by kernel_rfl) rfl #[.int .i64 a0_0] rfl (by (try simp only [List.map_toArray, List.map_cons, List.map_nil]); first | done | rfl | (simp only [List.length_drop, List.length_take]; rfl)) ?_; (with_reducible refine (regcertref05_UsesD.calls a0_0 true _ A46.out).mono ?_); rintro e w' ⟨rfl, ⟨nd, rfl⟩⟩; refine ⟨_, rfl, ?_⟩) | (go_at_call 57; (with_reducible refine (regcertref05_UsesA.calls a0_0 true _ A48.out).mono ?_); rintro e w' ⟨rfl, ⟨nd, rfl⟩⟩) | (go_at_call 58; (with_reducible refine (regcertref05_UsesB.calls a0_0 false _ A50.out).mono ?_); rintro e w' ⟨rfl, ⟨nd, rfl⟩⟩))
                          go_ret
                          exact ⟨by first | rfl | (simp [errW_none, errW_some] <;> rfl) | (simp [*, errW_none, errW_some] <;> rfl), by repeat (first | (with_reducible first | exact HB.out | apply below_alloc | apply pw_below_drewN | apply below_drew1 | refine below_set ?_ GE182.out) | exact HB.out)⟩
                        · rw [if_neg c60] at H
                          have c60b0 : (a0_4 == 0) = false := beq_eq_false_iff_ne.mpr c60
                          have c60b1 : (a0_4 != 0) = true := bne_iff_ne.mpr c60
                          obtain rfl := Option.some.inj H
                          have hcz62_0 : wc.cell? ⟨gb182, 0, none⟩ = some (.int .i64 a0_0) := (blk_cell BK182.out 0).trans rfl
                          have hcz62_1 : wc.cell? ⟨gb182, 1, none⟩ = some (.int .i64 a0_1) := (blk_cell BK182.out 1).trans rfl
                          have hcz62_2 : wc.cell? ⟨gb182, 2, none⟩ = some (.int .i64 a0_2) := (blk_cell BK182.out 2).trans rfl
                          have hcz62_3 : wc.cell? ⟨gb182, 3, none⟩ = some (.int .i64 a0_3) := (blk_cell BK182.out 3).trans rfl
                          have hcz62_4 : wc.cell? ⟨gb182, 4, none⟩ = some (.int .i64 a0_4) := (blk_cell BK182.out 4).trans rfl
                          have hfz62_0 := blk_frozen BK182.out 0
                          have hfz62_1 := blk_frozen BK182.out 1
                          have hfz62_2 := blk_frozen BK182.out 2
                          have hfz62_3 := blk_frozen BK182.out 3
                          have hfz62_4 := blk_frozen BK182.out 4
                          go_wp2_with (first | ((with_reducible refine gate_callee (f := 55) rfl ?_); refine goesL_ (some 49) rfl rfl Try.func55 (by kernel_rfl) rfl #[.int .i64 a0_0] rfl (by (try simp only [List.map_toArray, List.map_cons, List.map_nil]); first | done | rfl | (simp only [List.length_drop, List.length_take]; rfl)) ?_; (with_reducible refine (regcertref05_UsesD.calls a0_0 true _ A46.out).mono ?_); rintro e w' ⟨rfl, ⟨nd, rfl⟩⟩; refine ⟨_, rfl, ?_⟩) | (go_at_call 57; (with_reducible refine (regcertref05_UsesA.calls a0_0 true _ A48.out).mono ?_); rintro e w' ⟨rfl, ⟨nd, rfl⟩⟩) | (go_at_call 58; (with_reducible refine (regcertref05_UsesB.calls a0_0 false _ A50.out).mono ?_); rintro e w' ⟨rfl, ⟨nd, rfl⟩⟩))
                          go_ret
                          exact ⟨by first | rfl | (simp [errW_none, errW_some] <;> rfl) | (simp [*, errW_none, errW_some] <;> rfl), by repeat (first | (with_reducible first | exact HB.out | apply below_alloc | apply pw_below_drewN | apply below_drew1 | refine below_set ?_ GE182.out) | exact HB.out)⟩
                    · rw [if_neg c57] at H
                      have c57b0 : (a0_3 == 0) = false := beq_eq_false_iff_ne.mpr c57
                      have c57b1 : (a0_3 != 0) = true := bne_iff_ne.mpr c57
                      obtain rfl := Option.some.inj H
                      have hcz63_0 : wc.cell? ⟨gb182, 0, none⟩ = some (.int .i64 a0_0) := (blk_cell BK182.out 0).trans rfl
                      have hcz63_1 : wc.cell? ⟨gb182, 1, none⟩ = some (.int .i64 a0_1) := (blk_cell BK182.out 1).trans rfl
                      have hcz63_2 : wc.cell? ⟨gb182, 2, none⟩ = some (.int .i64 a0_2) := (blk_cell BK182.out 2).trans rfl
                      have hcz63_3 : wc.cell? ⟨gb182, 3, none⟩ = some (.int .i64 a0_3) := (blk_cell BK182.out 3).trans rfl
                      have hcz63_4 : wc.cell? ⟨gb182, 4, none⟩ = some (.int .i64 a0_4) := (blk_cell BK182.out 4).trans rfl
                      have hfz63_0 := blk_frozen BK182.out 0
                      have hfz63_1 := blk_frozen BK182.out 1
                      have hfz63_2 := blk_frozen BK182.out 2
                      have hfz63_3 := blk_frozen BK182.out 3
                      have hfz63_4 := blk_frozen BK182.out 4
                      go_wp2_with (first | ((with_reducible refine gate_callee (f := 55) rfl ?_); refine goesL_ (some 49) rfl rfl Try.func55 (by kernel_rfl) rfl #[.int .i64 a0_0] rfl (by (try simp only [List.map_toArray, List.map_cons, List.map_nil]); first | done | rfl | (simp only [List.length_drop, List.length_take]; rfl)) ?_; (with_reducible refine (regcertref05_UsesD.calls a0_0 true _ A46.out).mono ?_); rintro e w' ⟨rfl, ⟨nd, rfl⟩⟩; refine ⟨_, rfl, ?_⟩) | (go_at_call 57; (with_reducible refine (regcertref05_UsesA.calls a0_0 true _ A48.out).mono ?_); rintro e w' ⟨rfl, ⟨nd, rfl⟩⟩) | (go_at_call 58; (with_reducible refine (regcertref05_UsesB.calls a0_0 false _ A50.out).mono ?_); rintro e w' ⟨rfl, ⟨nd, rfl⟩⟩))
                      go_ret
                      exact ⟨by first | rfl | (simp [errW_none, errW_some] <;> rfl) | (simp [*, errW_none, errW_some] <;> rfl), by repeat (first | (with_reducible first | exact HB.out | apply below_alloc | apply pw_below_drewN | apply below_drew1 | refine below_set ?_ GE182.out) | exact HB.out)⟩
                · replace c49 := Bool.eq_false_iff.mpr c49
                  subst c49
                  have H1 : (if a0_2 = 0 then ((regcertref05_UsesB.f a0_0).bind fun t200 => (if t200 = true then (if a0_0 = 1 then (some 0) else (if a0_4 = 0 then (some 0) else (some 12))) else (if a0_3 = 0 then (if a0_0 = 1 then (some 0) else (if a0_4 = 0 then (some 0) else (some 12))) else (some 12)))) else (some 12)) = some r := by rw [if_neg (show ¬ (false = true) by decide)] at H; exact H
                  clear H
                  have H := H1
                  clear H1
                  by_cases c64 : a0_2 = 0
                  · rw [if_pos c64] at H
                    have c64b0 : (a0_2 == 0) = true := beq_iff_eq.mpr c64
                    have c64b1 : (a0_2 != 0) = false := bne_eq_false_iff_eq.mpr c64
                    clear c64
                    replace H := Option.bind_eq_some_iff.mp H
                    obtain ⟨t200, A650, H⟩ := H
                    replace H : (if t200 = true then (if a0_0 = 1 then (some 0) else (if a0_4 = 0 then (some 0) else (some 12))) else (if a0_3 = 0 then (if a0_0 = 1 then (some 0) else (if a0_4 = 0 then (some 0) else (some 12))) else (some 12))) = some r := H
                    have A65 := Aside0.mk A650
                    clear A650
                    by_cases c66 : t200 = true
                    · subst c66
                      have H1 : (if a0_0 = 1 then (some 0) else (if a0_4 = 0 then (some 0) else (some 12))) = some r := by rw [if_pos rfl] at H; exact H
                      clear H
                      have H := H1
                      clear H1
                      by_cases c67 : a0_0 = 1
                      · rw [if_pos c67] at H
                        have c67b0 : (a0_0 == 1) = true := beq_iff_eq.mpr c67
                        have c67b1 : (a0_0 != 1) = false := bne_eq_false_iff_eq.mpr c67
                        clear c67
                        obtain rfl := Option.some.inj H
                        have hcz68_0 : wc.cell? ⟨gb182, 0, none⟩ = some (.int .i64 a0_0) := (blk_cell BK182.out 0).trans rfl
                        have hcz68_1 : wc.cell? ⟨gb182, 1, none⟩ = some (.int .i64 a0_1) := (blk_cell BK182.out 1).trans rfl
                        have hcz68_2 : wc.cell? ⟨gb182, 2, none⟩ = some (.int .i64 a0_2) := (blk_cell BK182.out 2).trans rfl
                        have hcz68_3 : wc.cell? ⟨gb182, 3, none⟩ = some (.int .i64 a0_3) := (blk_cell BK182.out 3).trans rfl
                        have hcz68_4 : wc.cell? ⟨gb182, 4, none⟩ = some (.int .i64 a0_4) := (blk_cell BK182.out 4).trans rfl
                        have hfz68_0 := blk_frozen BK182.out 0
                        have hfz68_1 := blk_frozen BK182.out 1
                        have hfz68_2 := blk_frozen BK182.out 2
                        have hfz68_3 := blk_frozen BK182.out 3
                        have hfz68_4 := blk_frozen BK182.out 4
                        go_wp2_with (first | ((with_reducible refine gate_callee (f := 55) rfl ?_); refine goesL_ (some 49) rfl rfl Try.func55 (by kernel_rfl) rfl #[.int .i64 a0_0] rfl (by (try simp only [List.map_toArray, List.map_cons, List.map_nil]); first | done | rfl | (simp only [List.length_drop, List.length_take]; rfl)) ?_; (with_reducible refine (regcertref05_UsesD.calls a0_0 true _ A46.out).mono ?_); rintro e w' ⟨rfl, ⟨nd, rfl⟩⟩; refine ⟨_, rfl, ?_⟩) | (go_at_call 57; (with_reducible refine (regcertref05_UsesA.calls a0_0 false _ A48.out).mono ?_); rintro e w' ⟨rfl, ⟨nd, rfl⟩⟩) | (go_at_call 58; (with_reducible refine (regcertref05_UsesB.calls a0_0 true _ A65.out).mono ?_); rintro e w' ⟨rfl, ⟨nd, rfl⟩⟩))
                        go_ret
                        exact ⟨by first | rfl | (simp [errW_none, errW_some] <;> rfl) | (simp [*, errW_none, errW_some] <;> rfl), by repeat (first | (with_reducible first | exact HB.out | apply below_alloc | apply pw_below_drewN | apply below_drew1 | refine below_set ?_ GE182.out) | exact HB.out)⟩
                      · rw [if_neg c67] at H
                        have c67b0 : (a0_0 == 1) = false := beq_eq_false_iff_ne.mpr c67
                        have c67b1 : (a0_0 != 1) = true := bne_iff_ne.mpr c67
                        by_cases c69 : a0_4 = 0
                        · rw [if_pos c69] at H
                          have c69b0 : (a0_4 == 0) = true := beq_iff_eq.mpr c69
                          have c69b1 : (a0_4 != 0) = false := bne_eq_false_iff_eq.mpr c69
                          clear c69
                          obtain rfl := Option.some.inj H
                          have hcz70_0 : wc.cell? ⟨gb182, 0, none⟩ = some (.int .i64 a0_0) := (blk_cell BK182.out 0).trans rfl
                          have hcz70_1 : wc.cell? ⟨gb182, 1, none⟩ = some (.int .i64 a0_1) := (blk_cell BK182.out 1).trans rfl
                          have hcz70_2 : wc.cell? ⟨gb182, 2, none⟩ = some (.int .i64 a0_2) := (blk_cell BK182.out 2).trans rfl
                          have hcz70_3 : wc.cell? ⟨gb182, 3, none⟩ = some (.int .i64 a0_3) := (blk_cell BK182.out 3).trans rfl
                          have hcz70_4 : wc.cell? ⟨gb182, 4, none⟩ = some (.int .i64 a0_4) := (blk_cell BK182.out 4).trans rfl
                          have hfz70_0 := blk_frozen BK182.out 0
                          have hfz70_1 := blk_frozen BK182.out 1
                          have hfz70_2 := blk_frozen BK182.out 2
                          have hfz70_3 := blk_frozen BK182.out 3
                          have hfz70_4 := blk_frozen BK182.out 4
                          go_wp2_with (first | ((with_reducible refine gate_callee (f := 55) rfl ?_); refine goesL_ (some 49) rfl rfl Try.func55 (by kernel_rfl) rfl #[.int .i64 a0_0] rfl (by (try simp only [List.map_toArray, List.map_cons, List.map_nil]); first | done | rfl | (simp only [List.length_drop, List.length_take]; rfl)) ?_; (with_reducible refine (regcertref05_UsesD.calls a0_0 true _ A46.out).mono ?_); rintro e w' ⟨rfl, ⟨nd, rfl⟩⟩; refine ⟨_, rfl, ?_⟩) | (go_at_call 57; (with_reducible refine (regcertref05_UsesA.calls a0_0 false _ A48.out).mono ?_); rintro e w' ⟨rfl, ⟨nd, rfl⟩⟩) | (go_at_call 58; (with_reducible refine (regcertref05_UsesB.calls a0_0 true _ A65.out).mono ?_); rintro e w' ⟨rfl, ⟨nd, rfl⟩⟩))
                          go_ret
                          exact ⟨by first | rfl | (simp [errW_none, errW_some] <;> rfl) | (simp [*, errW_none, errW_some] <;> rfl), by repeat (first | (with_reducible first | exact HB.out | apply below_alloc | apply pw_below_drewN | apply below_drew1 | refine below_set ?_ GE182.out) | exact HB.out)⟩
                        · rw [if_neg c69] at H
                          have c69b0 : (a0_4 == 0) = false := beq_eq_false_iff_ne.mpr c69
                          have c69b1 : (a0_4 != 0) = true := bne_iff_ne.mpr c69
                          obtain rfl := Option.some.inj H
                          have hcz71_0 : wc.cell? ⟨gb182, 0, none⟩ = some (.int .i64 a0_0) := (blk_cell BK182.out 0).trans rfl
                          have hcz71_1 : wc.cell? ⟨gb182, 1, none⟩ = some (.int .i64 a0_1) := (blk_cell BK182.out 1).trans rfl
                          have hcz71_2 : wc.cell? ⟨gb182, 2, none⟩ = some (.int .i64 a0_2) := (blk_cell BK182.out 2).trans rfl
                          have hcz71_3 : wc.cell? ⟨gb182, 3, none⟩ = some (.int .i64 a0_3) := (blk_cell BK182.out 3).trans rfl
                          have hcz71_4 : wc.cell? ⟨gb182, 4, none⟩ = some (.int .i64 a0_4) := (blk_cell BK182.out 4).trans rfl
                          have hfz71_0 := blk_frozen BK182.out 0
                          have hfz71_1 := blk_frozen BK182.out 1
                          have hfz71_2 := blk_frozen BK182.out 2
                          have hfz71_3 := blk_frozen BK182.out 3
                          have hfz71_4 := blk_frozen BK182.out 4
                          go_wp2_with (first | ((with_reducible refine gate_callee (f := 55) rfl ?_); refine goesL_ (some 49) rfl rfl Try.func55 (by kernel_rfl) rfl #[.int .i64 a0_0] rfl (by (try simp only [List.map_toArray, List.map_cons, List.map_nil]); first | done | rfl | (simp only [List.length_drop, List.length_take]; rfl)) ?_; (with_reducible refine (regcertref05_UsesD.calls a0_0 true _ A46.out).mono ?_); rintro e w' ⟨rfl, ⟨nd, rfl⟩⟩; refine ⟨_, rfl, ?_⟩) | (go_at_call 57; (with_reducible refine (regcertref05_UsesA.calls a0_0 false _ A48.out).mono ?_); rintro e w' ⟨rfl, ⟨nd, rfl⟩⟩) | (go_at_call 58; (with_reducible refine (regcertref05_UsesB.calls a0_0 true _ A65.out).mono ?_); rintro e w' ⟨rfl, ⟨nd, rfl⟩⟩))
                          go_ret
                          exact ⟨by first | rfl | (simp [errW_none, errW_some] <;> rfl) | (simp [*, errW_none, errW_some] <;> rfl), by repeat (first | (with_reducible first | exact HB.out | apply below_alloc | apply pw_below_drewN | apply below_drew1 | refine below_set ?_ GE182.out) | exact HB.out)⟩
                    · replace c66 := Bool.eq_false_iff.mpr c66
                      subst c66
                      have H1 : (if a0_3 = 0 then (if a0_0 = 1 then (some 0) else (if a0_4 = 0 then (some 0) else (some 12))) else (some 12)) = some r := by rw [if_neg (show ¬ (false = true) by decide)] at H; exact H
                      clear H
                      have H := H1
                      clear H1
                      by_cases c72 : a0_3 = 0
                      · rw [if_pos c72] at H
                        have c72b0 : (a0_3 == 0) = true := beq_iff_eq.mpr c72
                        have c72b1 : (a0_3 != 0) = false := bne_eq_false_iff_eq.mpr c72
                        clear c72
                        by_cases c73 : a0_0 = 1
                        · rw [if_pos c73] at H
                          have c73b0 : (a0_0 == 1) = true := beq_iff_eq.mpr c73
                          have c73b1 : (a0_0 != 1) = false := bne_eq_false_iff_eq.mpr c73
                          clear c73
                          obtain rfl := Option.some.inj H
                          have hcz74_0 : wc.cell? ⟨gb182, 0, none⟩ = some (.int .i64 a0_0) := (blk_cell BK182.out 0).trans rfl
                          have hcz74_1 : wc.cell? ⟨gb182, 1, none⟩ = some (.int .i64 a0_1) := (blk_cell BK182.out 1).trans rfl
                          have hcz74_2 : wc.cell? ⟨gb182, 2, none⟩ = some (.int .i64 a0_2) := (blk_cell BK182.out 2).trans rfl
                          have hcz74_3 : wc.cell? ⟨gb182, 3, none⟩ = some (.int .i64 a0_3) := (blk_cell BK182.out 3).trans rfl
                          have hcz74_4 : wc.cell? ⟨gb182, 4, none⟩ = some (.int .i64 a0_4) := (blk_cell BK182.out 4).trans rfl
                          have hfz74_0 := blk_frozen BK182.out 0
                          have hfz74_1 := blk_frozen BK182.out 1
                          have hfz74_2 := blk_frozen BK182.out 2
                          have hfz74_3 := blk_frozen BK182.out 3
                          have hfz74_4 := blk_frozen BK182.out 4
                          go_wp2_with (first | ((with_reducible refine gate_callee (f := 55) rfl ?_); refine goesL_ (some 49) rfl rfl Try.func55 (by kernel_rfl) rfl #[.int .i64 a0_0] rfl (by (try simp only [List.map_toArray, List.map_cons, List.map_nil]); first | done | rfl | (simp only [List.length_drop, List.length_take]; rfl)) ?_; (with_reducible refine (regcertref05_UsesD.calls a0_0 true _ A46.out).mono ?_); rintro e w' ⟨rfl, ⟨nd, rfl⟩⟩; refine ⟨_, rfl, ?_⟩) | (go_at_call 57; (with_reducible refine (regcertref05_UsesA.calls a0_0 false _ A48.out).mono ?_); rintro e w' ⟨rfl, ⟨nd, rfl⟩⟩) | (go_at_call 58; (with_reducible refine (regcertref05_UsesB.calls a0_0 false _ A65.out).mono ?_); rintro e w' ⟨rfl, ⟨nd, rfl⟩⟩))
                          go_ret
                          exact ⟨by first | rfl | (simp [errW_none, errW_some] <;> rfl) | (simp [*, errW_none, errW_some] <;> rfl), by repeat (first | (with_reducible first | exact HB.out | apply below_alloc | apply pw_below_drewN | apply below_drew1 | refine below_set ?_ GE182.out) | exact HB.out)⟩
                        · rw [if_neg c73] at H
                          have c73b0 : (a0_0 == 1) = false := beq_eq_false_iff_ne.mpr c73
                          have c73b1 : (a0_0 != 1) = true := bne_iff_ne.mpr c73
                          by_cases c75 : a0_4 = 0
                          · rw [if_pos c75] at H
                            have c75b0 : (a0_4 == 0) = true := beq_iff_eq.mpr c75
                            have c75b1 : (a0_4 != 0) = false := bne_eq_false_iff_eq.mpr c75
                            clear c75
                            obtain rfl := Option.some.inj H
                            have hcz76_0 : wc.cell? ⟨gb182, 0, none⟩ = some (.int .i64 a0_0) := (blk_cell BK182.out 0).trans rfl
                            have hcz76_1 : wc.cell? ⟨gb182, 1, none⟩ = some (.int .i64 a0_1) := (blk_cell BK182.out 1).trans rfl
                            have hcz76_2 : wc.cell? ⟨gb182, 2, none⟩ = some (.int .i64 a0_2) := (blk_cell BK182.out 2).trans rfl
                            have hcz76_3 : wc.cell? ⟨gb182, 3, none⟩ = some (.int .i64 a0_3) := (blk_cell BK182.out 3).trans rfl
                            have hcz76_4 : wc.cell? ⟨gb182, 4, none⟩ = some (.int .i64 a0_4) := (blk_cell BK182.out 4).trans rfl
                            have hfz76_0 := blk_frozen BK182.out 0
                            have hfz76_1 := blk_frozen BK182.out 1
                            have hfz76_2 := blk_frozen BK182.out 2
                            have hfz76_3 := blk_frozen BK182.out 3
                            have hfz76_4 := blk_frozen BK182.out 4
                            go_wp2_with (first | ((with_reducible refine gate_callee (f := 55) rfl ?_); refine goesL_ (some 49) rfl rfl Try.func55 (by kernel_rfl) rfl #[.int .i64 a0_0] rfl (by (try simp only [List.map_toArray, List.map_cons, List.map_nil]); first | done | rfl | (simp only [List.length_drop, List.length_take]; rfl)) ?_; (with_reducible refine (regcertref05_UsesD.calls a0_0 true _ A46.out).mono ?_); rintro e w' ⟨rfl, ⟨nd, rfl⟩⟩; refine ⟨_, rfl, ?_⟩) | (go_at_call 57; (with_reducible refine (regcertref05_UsesA.calls a0_0 false _ A48.out).mono ?_); rintro e w' ⟨rfl, ⟨nd, rfl⟩⟩) | (go_at_call 58; (with_reducible refine (regcertref05_UsesB.calls a0_0 false _ A65.out).mono ?_); rintro e w' ⟨rfl, ⟨nd, rfl⟩⟩))
                            go_ret
                            exact ⟨by first | rfl | (simp [errW_none, errW_some] <;> rfl) | (simp [*, errW_none, errW_some] <;> rfl), by repeat (first | (with_reducible first | exact HB.out | apply below_alloc | apply pw_below_drewN | apply below_drew1 | refine below_set ?_ GE182.out) | exact HB.out)⟩
                          · rw [if_neg c75] at H
                            have c75b0 : (a0_4 == 0) = false := beq_eq_false_iff_ne.mpr c75
                            have c75b1 : (a0_4 != 0) = true := bne_iff_ne.mpr c75
                            obtain rfl := Option.some.inj H
                            have hcz77_0 : wc.cell? ⟨gb182, 0, none⟩ = some (.int .i64 a0_0) := (blk_cell BK182.out 0).trans rfl
                            have hcz77_1 : wc.cell? ⟨gb182, 1, none⟩ = some (.int .i64 a0_1) := (blk_cell BK182.out 1).trans rfl
                            have hcz77_2 : wc.cell? ⟨gb182, 2, none⟩ = some (.int .i64 a0_2) := (blk_cell BK182.out 2).trans rfl
                            have hcz77_3 : wc.cell? ⟨gb182, 3, none⟩ = some (.int .i64 a0_3) := (blk_cell BK182.out 3).trans rfl
                            have hcz77_4 : wc.cell? ⟨gb182, 4, none⟩ = some (.int .i64 a0_4) := (blk_cell BK182.out 4).trans rfl
                            have hfz77_0 := blk_frozen BK182.out 0
                            have hfz77_1 := blk_frozen BK182.out 1
                            have hfz77_2 := blk_frozen BK182.out 2
                            have hfz77_3 := blk_frozen BK182.out 3
                            have hfz77_4 := blk_frozen BK182.out 4
                            go_wp2_with (first | ((with_reducible refine gate_callee (f := 55) rfl ?_); refine goesL_ (some 49) rfl rfl Try.func55 (by kernel_rfl) rfl #[.int .i64 a0_0] rfl (by (try simp only [List.map_toArray, List.map_cons, List.map_nil]); first | done | rfl | (simp only [List.length_drop, List.length_take]; rfl)) ?_; (with_reducible refine (regcertref05_UsesD.calls a0_0 true _ A46.out).mono ?_); rintro e w' ⟨rfl, ⟨nd, rfl⟩⟩; refine ⟨_, rfl, ?_⟩) | (go_at_call 57; (with_reducible refine (regcertref05_UsesA.calls a0_0 false _ A48.out).mono ?_); rintro e w' ⟨rfl, ⟨nd, rfl⟩⟩) | (go_at_call 58; (with_reducible refine (regcertref05_UsesB.calls a0_0 false _ A65.out).mono ?_); rintro e w' ⟨rfl, ⟨nd, rfl⟩⟩))
                            go_ret
                            exact ⟨by first | rfl | (simp [errW_none, errW_some] <;> rfl) | (simp [*, errW_none, errW_some] <;> rfl), by repeat (first | (with_reducible first | exact HB.out | apply below_alloc | apply pw_below_drewN | apply below_drew1 | refine below_set ?_ GE182.out) | exact HB.out)⟩
                      · rw [if_neg c72] at H
                        have c72b0 : (a0_3 == 0) = false := beq_eq_false_iff_ne.mpr c72
                        have c72b1 : (a0_3 != 0) = true := bne_iff_ne.mpr c72
                        obtain rfl := Option.some.inj H
                        have hcz78_0 : wc.cell? ⟨gb182, 0, none⟩ = some (.int .i64 a0_0) := (blk_cell BK182.out 0).trans rfl
                        have hcz78_1 : wc.cell? ⟨gb182, 1, none⟩ = some (.int .i64 a0_1) := (blk_cell BK182.out 1).trans rfl
                        have hcz78_2 : wc.cell? ⟨gb182, 2, none⟩ = some (.int .i64 a0_2) := (blk_cell BK182.out 2).trans rfl
                        have hcz78_3 : wc.cell? ⟨gb182, 3, none⟩ = some (.int .i64 a0_3) := (blk_cell BK182.out 3).trans rfl
                        have hcz78_4 : wc.cell? ⟨gb182, 4, none⟩ = some (.int .i64 a0_4) := (blk_cell BK182.out 4).trans rfl
                        have hfz78_0 := blk_frozen BK182.out 0
                        have hfz78_1 := blk_frozen BK182.out 1
                        have hfz78_2 := blk_frozen BK182.out 2
                        have hfz78_3 := blk_frozen BK182.out 3
                        have hfz78_4 := blk_frozen BK182.out 4
                        go_wp2_with (first | ((with_reducible refine gate_callee (f := 55) rfl ?_); refine goesL_ (some 49) rfl rfl Try.func55 (by kernel_rfl) rfl #[.int .i64 a0_0] rfl (by (try simp only [List.map_toArray, List.map_cons, List.map_nil]); first | done | rfl | (simp only [List.length_drop, List.length_take]; rfl)) ?_; (with_reducible refine (regcertref05_UsesD.calls a0_0 true _ A46.out).mono ?_); rintro e w' ⟨rfl, ⟨nd, rfl⟩⟩; refine ⟨_, rfl, ?_⟩) | (go_at_call 57; (with_reducible refine (regcertref05_UsesA.calls a0_0 false _ A48.out).mono ?_); rintro e w' ⟨rfl, ⟨nd, rfl⟩⟩) | (go_at_call 58; (with_reducible refine (regcertref05_UsesB.calls a0_0 false _ A65.out).mono ?_); rintro e w' ⟨rfl, ⟨nd, rfl⟩⟩))
                        go_ret
                        exact ⟨by first | rfl | (simp [errW_none, errW_some] <;> rfl) | (simp [*, errW_none, errW_some] <;> rfl), by repeat (first | (with_reducible first | exact HB.out | apply below_alloc | apply pw_below_drewN | apply below_drew1 | refine below_set ?_ GE182.out) | exact HB.out)⟩
                  · rw [if_neg c64] at H
                    have c64b0 : (a0_2 == 0) = false := beq_eq_false_iff_ne.mpr c64
                    have c64b1 : (a0_2 != 0) = true := bne_iff_ne.mpr c64
                    obtain rfl := Option.some.inj H
                    have hcz79_0 : wc.cell? ⟨gb182, 0, none⟩ = some (.int .i64 a0_0) := (blk_cell BK182.out 0).trans rfl
                    have hcz79_1 : wc.cell? ⟨gb182, 1, none⟩ = some (.int .i64 a0_1) := (blk_cell BK182.out 1).trans rfl
                    have hcz79_2 : wc.cell? ⟨gb182, 2, none⟩ = some (.int .i64 a0_2) := (blk_cell BK182.out 2).trans rfl
                    have hcz79_3 : wc.cell? ⟨gb182, 3, none⟩ = some (.int .i64 a0_3) := (blk_cell BK182.out 3).trans rfl
                    have hcz79_4 : wc.cell? ⟨gb182, 4, none⟩ = some (.int .i64 a0_4) := (blk_cell BK182.out 4).trans rfl
                    have hfz79_0 := blk_frozen BK182.out 0
                    have hfz79_1 := blk_frozen BK182.out 1
                    have hfz79_2 := blk_frozen BK182.out 2
                    have hfz79_3 := blk_frozen BK182.out 3
                    have hfz79_4 := blk_frozen BK182.out 4
                    go_wp2_with (first | ((with_reducible refine gate_callee (f := 55) rfl ?_); refine goesL_ (some 49) rfl rfl Try.func55 (by kernel_rfl) rfl #[.int .i64 a0_0] rfl (by (try simp only [List.map_toArray, List.map_cons, List.map_nil]); first | done | rfl | (simp only [List.length_drop, List.length_take]; rfl)) ?_; (with_reducible refine (regcertref05_UsesD.calls a0_0 true _ A46.out).mono ?_); rintro e w' ⟨rfl, ⟨nd, rfl⟩⟩; refine ⟨_, rfl, ?_⟩) | (go_at_call 57; (with_reducible refine (regcertref05_UsesA.calls a0_0 false _ A48.out).mono ?_); rintro e w' ⟨rfl, ⟨nd, rfl⟩⟩))
                    go_ret
                    exact ⟨by first | rfl | (simp [errW_none, errW_some] <;> rfl) | (simp [*, errW_none, errW_some] <;> rfl), by repeat (first | (with_reducible first | exact HB.out | apply below_alloc | apply pw_below_drewN | apply below_drew1 | refine below_set ?_ GE182.out) | exact HB.out)⟩
              · replace c47 := Bool.eq_false_iff.mpr c47
                subst c47
                have H1 : (if a0_1 = 0 then ((regcertref05_UsesA.f a0_0).bind fun t201 => (if t201 = true then ((regcertref05_UsesB.f a0_0).bind fun t202 => (if t202 = true then (if a0_0 = 1 then (some 0) else (if a0_4 = 0 then (some 0) else (some 12))) else (if a0_3 = 0 then (if a0_0 = 1 then (some 0) else (if a0_4 = 0 then (some 0) else (some 12))) else (some 12)))) else (if a0_2 = 0 then ((regcertref05_UsesB.f a0_0).bind fun t203 => (if t203 = true then (if a0_0 = 1 then (some 0) else (if a0_4 = 0 then (some 0) else (some 12))) else (if a0_3 = 0 then (if a0_0 = 1 then (some 0) else (if a0_4 = 0 then (some 0) else (some 12))) else (some 12)))) else (some 12)))) else (some 12)) = some r := by rw [if_neg (show ¬ (false = true) by decide)] at H; exact H
                clear H
                have H := H1
                clear H1
                by_cases c80 : a0_1 = 0
                · rw [if_pos c80] at H
                  have c80b0 : (a0_1 == 0) = true := beq_iff_eq.mpr c80
                  have c80b1 : (a0_1 != 0) = false := bne_eq_false_iff_eq.mpr c80
                  clear c80
                  replace H := Option.bind_eq_some_iff.mp H
                  obtain ⟨t201, A810, H⟩ := H
                  replace H : (if t201 = true then ((regcertref05_UsesB.f a0_0).bind fun t202 => (if t202 = true then (if a0_0 = 1 then (some 0) else (if a0_4 = 0 then (some 0) else (some 12))) else (if a0_3 = 0 then (if a0_0 = 1 then (some 0) else (if a0_4 = 0 then (some 0) else (some 12))) else (some 12)))) else (if a0_2 = 0 then ((regcertref05_UsesB.f a0_0).bind fun t203 => (if t203 = true then (if a0_0 = 1 then (some 0) else (if a0_4 = 0 then (some 0) else (some 12))) else (if a0_3 = 0 then (if a0_0 = 1 then (some 0) else (if a0_4 = 0 then (some 0) else (some 12))) else (some 12)))) else (some 12))) = some r := H
                  have A81 := Aside0.mk A810
                  clear A810
                  by_cases c82 : t201 = true
                  · subst c82
                    have H1 : ((regcertref05_UsesB.f a0_0).bind fun t202 => (if t202 = true then (if a0_0 = 1 then (some 0) else (if a0_4 = 0 then (some 0) else (some 12))) else (if a0_3 = 0 then (if a0_0 = 1 then (some 0) else (if a0_4 = 0 then (some 0) else (some 12))) else (some 12)))) = some r := by rw [if_pos rfl] at H; exact H
                    clear H
                    have H := H1
                    clear H1
                    replace H := Option.bind_eq_some_iff.mp H
                    obtain ⟨t202, A830, H⟩ := H
                    replace H : (if t202 = true then (if a0_0 = 1 then (some 0) else (if a0_4 = 0 then (some 0) else (some 12))) else (if a0_3 = 0 then (if a0_0 = 1 then (some 0) else (if a0_4 = 0 then (some 0) else (some 12))) else (some 12))) = some r := H
                    have A83 := Aside0.mk A830
                    clear A830
                    by_cases c84 : t202 = true
                    · subst c84
                      have H1 : (if a0_0 = 1 then (some 0) else (if a0_4 = 0 then (some 0) else (some 12))) = some r := by rw [if_pos rfl] at H; exact H
                      clear H
                      have H := H1
                      clear H1
                      by_cases c85 : a0_0 = 1
                      · rw [if_pos c85] at H
                        have c85b0 : (a0_0 == 1) = true := beq_iff_eq.mpr c85
                        have c85b1 : (a0_0 != 1) = false := bne_eq_false_iff_eq.mpr c85
                        clear c85
                        obtain rfl := Option.some.inj H
                        have hcz86_0 : wc.cell? ⟨gb182, 0, none⟩ = some (.int .i64 a0_0) := (blk_cell BK182.out 0).trans rfl
                        have hcz86_1 : wc.cell? ⟨gb182, 1, none⟩ = some (.int .i64 a0_1) := (blk_cell BK182.out 1).trans rfl
                        have hcz86_2 : wc.cell? ⟨gb182, 2, none⟩ = some (.int .i64 a0_2) := (blk_cell BK182.out 2).trans rfl
                        have hcz86_3 : wc.cell? ⟨gb182, 3, none⟩ = some (.int .i64 a0_3) := (blk_cell BK182.out 3).trans rfl
                        have hcz86_4 : wc.cell? ⟨gb182, 4, none⟩ = some (.int .i64 a0_4) := (blk_cell BK182.out 4).trans rfl
                        have hfz86_0 := blk_frozen BK182.out 0
                        have hfz86_1 := blk_frozen BK182.out 1
                        have hfz86_2 := blk_frozen BK182.out 2
                        have hfz86_3 := blk_frozen BK182.out 3
                        have hfz86_4 := blk_frozen BK182.out 4
                        go_wp2_with (first | ((with_reducible refine gate_callee (f := 55) rfl ?_); refine goesL_ (some 49) rfl rfl Try.func55 (by kernel_rfl) rfl #[.int .i64 a0_0] rfl (by (try simp only [List.map_toArray, List.map_cons, List.map_nil]); first | done | rfl | (simp only [List.length_drop, List.length_take]; rfl)) ?_; (with_reducible refine (regcertref05_UsesD.calls a0_0 false _ A46.out).mono ?_); rintro e w' ⟨rfl, ⟨nd, rfl⟩⟩; refine ⟨_, rfl, ?_⟩) | (go_at_call 57; (with_reducible refine (regcertref05_UsesA.calls a0_0 true _ A81.out).mono ?_); rintro e w' ⟨rfl, ⟨nd, rfl⟩⟩) | (go_at_call 58; (with_reducible refine (regcertref05_UsesB.calls a0_0 true _ A83.out).mono ?_); rintro e w' ⟨rfl, ⟨nd, rfl⟩⟩))
                        go_ret
                        exact ⟨by first | rfl | (simp [errW_none, errW_some] <;> rfl) | (simp [*, errW_none, errW_some] <;> rfl), by repeat (first | (with_reducible first | exact HB.out | apply below_alloc | apply pw_below_drewN | apply below_drew1 | refine below_set ?_ GE182.out) | exact HB.out)⟩
                      · rw [if_neg c85] at H
                        have c85b0 : (a0_0 == 1) = false := beq_eq_false_iff_ne.mpr c85
                        have c85b1 : (a0_0 != 1) = true := bne_iff_ne.mpr c85
                        by_cases c87 : a0_4 = 0
                        · rw [if_pos c87] at H
                          have c87b0 : (a0_4 == 0) = true := beq_iff_eq.mpr c87
                          have c87b1 : (a0_4 != 0) = false := bne_eq_false_iff_eq.mpr c87
                          clear c87
                          obtain rfl := Option.some.inj H
                          have hcz88_0 : wc.cell? ⟨gb182, 0, none⟩ = some (.int .i64 a0_0) := (blk_cell BK182.out 0).trans rfl
                          have hcz88_1 : wc.cell? ⟨gb182, 1, none⟩ = some (.int .i64 a0_1) := (blk_cell BK182.out 1).trans rfl
                          have hcz88_2 : wc.cell? ⟨gb182, 2, none⟩ = some (.int .i64 a0_2) := (blk_cell BK182.out 2).trans rfl
                          have hcz88_3 : wc.cell? ⟨gb182, 3, none⟩ = some (.int .i64 a0_3) := (blk_cell BK182.out 3).trans rfl
                          have hcz88_4 : wc.cell? ⟨gb182, 4, none⟩ = some (.int .i64 a0_4) := (blk_cell BK182.out 4).trans rfl
                          have hfz88_0 := blk_frozen BK182.out 0
                          have hfz88_1 := blk_frozen BK182.out 1
                          have hfz88_2 := blk_frozen BK182.out 2
                          have hfz88_3 := blk_frozen BK182.out 3
                          have hfz88_4 := blk_frozen BK182.out 4
                          go_wp2_with (first | ((with_reducible refine gate_callee (f := 55) rfl ?_); refine goesL_ (some 49) rfl rfl Try.func55 (by kernel_rfl) rfl #[.int .i64 a0_0] rfl (by (try simp only [List.map_toArray, List.map_cons, List.map_nil]); first | done | rfl | (simp only [List.length_drop, List.length_take]; rfl)) ?_; (with_reducible refine (regcertref05_UsesD.calls a0_0 false _ A46.out).mono ?_); rintro e w' ⟨rfl, ⟨nd, rfl⟩⟩; refine ⟨_, rfl, ?_⟩) | (go_at_call 57; (with_reducible refine (regcertref05_UsesA.calls a0_0 true _ A81.out).mono ?_); rintro e w' ⟨rfl, ⟨nd, rfl⟩⟩) | (go_at_call 58; (with_reducible refine (regcertref05_UsesB.calls a0_0 true _ A83.out).mono ?_); rintro e w' ⟨rfl, ⟨nd, rfl⟩⟩))
                          go_ret
                          exact ⟨by first | rfl | (simp [errW_none, errW_some] <;> rfl) | (simp [*, errW_none, errW_some] <;> rfl), by repeat (first | (with_reducible first | exact HB.out | apply below_alloc | apply pw_below_drewN | apply below_drew1 | refine below_set ?_ GE182.out) | exact HB.out)⟩
                        · rw [if_neg c87] at H
                          have c87b0 : (a0_4 == 0) = false := beq_eq_false_iff_ne.mpr c87
                          have c87b1 : (a0_4 != 0) = true := bne_iff_ne.mpr c87
                          obtain rfl := Option.some.inj H
                          have hcz89_0 : wc.cell? ⟨gb182, 0, none⟩ = some (.int .i64 a0_0) := (blk_cell BK182.out 0).trans rfl
                          have hcz89_1 : wc.cell? ⟨gb182, 1, none⟩ = some (.int .i64 a0_1) := (blk_cell BK182.out 1).trans rfl
                          have hcz89_2 : wc.cell? ⟨gb182, 2, none⟩ = some (.int .i64 a0_2) := (blk_cell BK182.out 2).trans rfl
                          have hcz89_3 : wc.cell? ⟨gb182, 3, none⟩ = some (.int .i64 a0_3) := (blk_cell BK182.out 3).trans rfl
                          have hcz89_4 : wc.cell? ⟨gb182, 4, none⟩ = some (.int .i64 a0_4) := (blk_cell BK182.out 4).trans rfl
                          have hfz89_0 := blk_frozen BK182.out 0
                          have hfz89_1 := blk_frozen BK182.out 1
                          have hfz89_2 := blk_frozen BK182.out 2
                          have hfz89_3 := blk_frozen BK182.out 3
                          have hfz89_4 := blk_frozen BK182.out 4
                          go_wp2_with (first | ((with_reducible refine gate_callee (f := 55) rfl ?_); refine goesL_ (some 49) rfl rfl Try.func55 (by kernel_rfl) rfl #[.int .i64 a0_0] rfl (by (try simp only [List.map_toArray, List.map_cons, List.map_nil]); first | done | rfl | (simp only [List.length_drop, List.length_take]; rfl)) ?_; (with_reducible refine (regcertref05_UsesD.calls a0_0 false _ A46.out).mono ?_); rintro e w' ⟨rfl, ⟨nd, rfl⟩⟩; refine ⟨_, rfl, ?_⟩) | (go_at_call 57; (with_reducible refine (regcertref05_UsesA.calls a0_0 true _ A81.out).mono ?_); rintro e w' ⟨rfl, ⟨nd, rfl⟩⟩) | (go_at_call 58; (with_reducible refine (regcertref05_UsesB.calls a0_0 true _ A83.out).mono ?_); rintro e w' ⟨rfl, ⟨nd, rfl⟩⟩))
                          go_ret
                          exact ⟨by first | rfl | (simp [errW_none, errW_some] <;> rfl) | (simp [*, errW_none, errW_some] <;> rfl), by repeat (first | (with_reducible first | exact HB.out | apply below_alloc | apply pw_below_drewN | apply below_drew1 | refine below_set ?_ GE182.out) | exact HB.out)⟩
                    · replace c84 := Bool.eq_false_iff.mpr c84
                      subst c84
                      have H1 : (if a0_3 = 0 then (if a0_0 = 1 then (some 0) else (if a0_4 = 0 then (some 0) else (some 12))) else (some 12)) = some r := by rw [if_neg (show ¬ (false = true) by decide)] at H; exact H
                      clear H
                      have H := H1
                      clear H1
                      by_cases c90 : a0_3 = 0
                      · rw [if_pos c90] at H
                        have c90b0 : (a0_3 == 0) = true := beq_iff_eq.mpr c90
                        have c90b1 : (a0_3 != 0) = false := bne_eq_false_iff_eq.mpr c90
                        clear c90
                        by_cases c91 : a0_0 = 1
                        · rw [if_pos c91] at H
                          have c91b0 : (a0_0 == 1) = true := beq_iff_eq.mpr c91
                          have c91b1 : (a0_0 != 1) = false := bne_eq_false_iff_eq.mpr c91
                          clear c91
                          obtain rfl := Option.some.inj H
                          have hcz92_0 : wc.cell? ⟨gb182, 0, none⟩ = some (.int .i64 a0_0) := (blk_cell BK182.out 0).trans rfl
                          have hcz92_1 : wc.cell? ⟨gb182, 1, none⟩ = some (.int .i64 a0_1) := (blk_cell BK182.out 1).trans rfl
                          have hcz92_2 : wc.cell? ⟨gb182, 2, none⟩ = some (.int .i64 a0_2) := (blk_cell BK182.out 2).trans rfl
                          have hcz92_3 : wc.cell? ⟨gb182, 3, none⟩ = some (.int .i64 a0_3) := (blk_cell BK182.out 3).trans rfl
                          have hcz92_4 : wc.cell? ⟨gb182, 4, none⟩ = some (.int .i64 a0_4) := (blk_cell BK182.out 4).trans rfl
                          have hfz92_0 := blk_frozen BK182.out 0
                          have hfz92_1 := blk_frozen BK182.out 1
                          have hfz92_2 := blk_frozen BK182.out 2
                          have hfz92_3 := blk_frozen BK182.out 3
                          have hfz92_4 := blk_frozen BK182.out 4
                          go_wp2_with (first | ((with_reducible refine gate_callee (f := 55) rfl ?_); refine goesL_ (some 49) rfl rfl Try.func55 (by kernel_rfl) rfl #[.int .i64 a0_0] rfl (by (try simp only [List.map_toArray, List.map_cons, List.map_nil]); first | done | rfl | (simp only [List.length_drop, List.length_take]; rfl)) ?_; (with_reducible refine (regcertref05_UsesD.calls a0_0 false _ A46.out).mono ?_); rintro e w' ⟨rfl, ⟨nd, rfl⟩⟩; refine ⟨_, rfl, ?_⟩) | (go_at_call 57; (with_reducible refine (regcertref05_UsesA.calls a0_0 true _ A81.out).mono ?_); rintro e w' ⟨rfl, ⟨nd, rfl⟩⟩) | (go_at_call 58; (with_reducible refine (regcertref05_UsesB.calls a0_0 false _ A83.out).mono ?_); rintro e w' ⟨rfl, ⟨nd, rfl⟩⟩))
                          go_ret
                          exact ⟨by first | rfl | (simp [errW_none, errW_some] <;> rfl) | (simp [*, errW_none, errW_some] <;> rfl), by repeat (first | (with_reducible first | exact HB.out | apply below_alloc | apply pw_below_drewN | apply below_drew1 | refine below_set ?_ GE182.out) | exact HB.out)⟩
                        · rw [if_neg c91] at H
                          have c91b0 : (a0_0 == 1) = false := beq_eq_false_iff_ne.mpr c91
                          have c91b1 : (a0_0 != 1) = true := bne_iff_ne.mpr c91
                          by_cases c93 : a0_4 = 0
                          · rw [if_pos c93] at H
                            have c93b0 : (a0_4 == 0) = true := beq_iff_eq.mpr c93
                            have c93b1 : (a0_4 != 0) = false := bne_eq_false_iff_eq.mpr c93
                            clear c93
                            obtain rfl := Option.some.inj H
                            have hcz94_0 : wc.cell? ⟨gb182, 0, none⟩ = some (.int .i64 a0_0) := (blk_cell BK182.out 0).trans rfl
                            have hcz94_1 : wc.cell? ⟨gb182, 1, none⟩ = some (.int .i64 a0_1) := (blk_cell BK182.out 1).trans rfl
                            have hcz94_2 : wc.cell? ⟨gb182, 2, none⟩ = some (.int .i64 a0_2) := (blk_cell BK182.out 2).trans rfl
                            have hcz94_3 : wc.cell? ⟨gb182, 3, none⟩ = some (.int .i64 a0_3) := (blk_cell BK182.out 3).trans rfl
                            have hcz94_4 : wc.cell? ⟨gb182, 4, none⟩ = some (.int .i64 a0_4) := (blk_cell BK182.out 4).trans rfl
                            have hfz94_0 := blk_frozen BK182.out 0
                            have hfz94_1 := blk_frozen BK182.out 1
                            have hfz94_2 := blk_frozen BK182.out 2
                            have hfz94_3 := blk_frozen BK182.out 3
                            have hfz94_4 := blk_frozen BK182.out 4
                            go_wp2_with (first | ((with_reducible refine gate_callee (f := 55) rfl ?_); refine goesL_ (some 49) rfl rfl Try.func55 (by kernel_rfl) rfl #[.int .i64 a0_0] rfl (by (try simp only [List.map_toArray, List.map_cons, List.map_nil]); first | done | rfl | (simp only [List.length_drop, List.length_take]; rfl)) ?_; (with_reducible refine (regcertref05_UsesD.calls a0_0 false _ A46.out).mono ?_); rintro e w' ⟨rfl, ⟨nd, rfl⟩⟩; refine ⟨_, rfl, ?_⟩) | (go_at_call 57; (with_reducible refine (regcertref05_UsesA.calls a0_0 true _ A81.out).mono ?_); rintro e w' ⟨rfl, ⟨nd, rfl⟩⟩) | (go_at_call 58; (with_reducible refine (regcertref05_UsesB.calls a0_0 false _ A83.out).mono ?_); rintro e w' ⟨rfl, ⟨nd, rfl⟩⟩))
                            go_ret
                            exact ⟨by first | rfl | (simp [errW_none, errW_some] <;> rfl) | (simp [*, errW_none, errW_some] <;> rfl), by repeat (first | (with_reducible first | exact HB.out | apply below_alloc | apply pw_below_drewN | apply below_drew1 | refine below_set ?_ GE182.out) | exact HB.out)⟩
                          · rw [if_neg c93] at H
                            have c93b0 : (a0_4 == 0) = false := beq_eq_false_iff_ne.mpr c93
                            have c93b1 : (a0_4 != 0) = true := bne_iff_ne.mpr c93
                            obtain rfl := Option.some.inj H
                            have hcz95_0 : wc.cell? ⟨gb182, 0, none⟩ = some (.int .i64 a0_0) := (blk_cell BK182.out 0).trans rfl
                            have hcz95_1 : wc.cell? ⟨gb182, 1, none⟩ = some (.int .i64 a0_1) := (blk_cell BK182.out 1).trans rfl
                            have hcz95_2 : wc.cell? ⟨gb182, 2, none⟩ = some (.int .i64 a0_2) := (blk_cell BK182.out 2).trans rfl
                            have hcz95_3 : wc.cell? ⟨gb182, 3, none⟩ = some (.int .i64 a0_3) := (blk_cell BK182.out 3).trans rfl
                            have hcz95_4 : wc.cell? ⟨gb182, 4, none⟩ = some (.int .i64 a0_4) := (blk_cell BK182.out 4).trans rfl
                            have hfz95_0 := blk_frozen BK182.out 0
                            have hfz95_1 := blk_frozen BK182.out 1
                            have hfz95_2 := blk_frozen BK182.out 2
                            have hfz95_3 := blk_frozen BK182.out 3
                            have hfz95_4 := blk_frozen BK182.out 4
                            go_wp2_with (first | ((with_reducible refine gate_callee (f := 55) rfl ?_); refine goesL_ (some 49) rfl rfl Try.func55 (by kernel_rfl) rfl #[.int .i64 a0_0] rfl (by (try simp only [List.map_toArray, List.map_cons, List.map_nil]); first | done | rfl | (simp only [List.length_drop, List.length_take]; rfl)) ?_; (with_reducible refine (regcertref05_UsesD.calls a0_0 false _ A46.out).mono ?_); rintro e w' ⟨rfl, ⟨nd, rfl⟩⟩; refine ⟨_, rfl, ?_⟩) | (go_at_call 57; (with_reducible refine (regcertref05_UsesA.calls a0_0 true _ A81.out).mono ?_); rintro e w' ⟨rfl, ⟨nd, rfl⟩⟩) | (go_at_call 58; (with_reducible refine (regcertref05_UsesB.calls a0_0 false _ A83.out).mono ?_); rintro e w' ⟨rfl, ⟨nd, rfl⟩⟩))
                            go_ret
                            exact ⟨by first | rfl | (simp [errW_none, errW_some] <;> rfl) | (simp [*, errW_none, errW_some] <;> rfl), by repeat (first | (with_reducible first | exact HB.out | apply below_alloc | apply pw_below_drewN | apply below_drew1 | refine below_set ?_ GE182.out) | exact HB.out)⟩
                      · rw [if_neg c90] at H
                        have c90b0 : (a0_3 == 0) = false := beq_eq_false_iff_ne.mpr c90
                        have c90b1 : (a0_3 != 0) = true := bne_iff_ne.mpr c90
                        obtain rfl := Option.some.inj H
                        have hcz96_0 : wc.cell? ⟨gb182, 0, none⟩ = some (.int .i64 a0_0) := (blk_cell BK182.out 0).trans rfl
                        have hcz96_1 : wc.cell? ⟨gb182, 1, none⟩ = some (.int .i64 a0_1) := (blk_cell BK182.out 1).trans rfl
                        have hcz96_2 : wc.cell? ⟨gb182, 2, none⟩ = some (.int .i64 a0_2) := (blk_cell BK182.out 2).trans rfl
                        have hcz96_3 : wc.cell? ⟨gb182, 3, none⟩ = some (.int .i64 a0_3) := (blk_cell BK182.out 3).trans rfl
                        have hcz96_4 : wc.cell? ⟨gb182, 4, none⟩ = some (.int .i64 a0_4) := (blk_cell BK182.out 4).trans rfl
                        have hfz96_0 := blk_frozen BK182.out 0
                        have hfz96_1 := blk_frozen BK182.out 1
                        have hfz96_2 := blk_frozen BK182.out 2
                        have hfz96_3 := blk_frozen BK182.out 3
                        have hfz96_4 := blk_frozen BK182.out 4
                        go_wp2_with (first | ((with_reducible refine gate_callee (f := 55) rfl ?_); refine goesL_ (some 49) rfl rfl Try.func55 (by kernel_rfl) rfl #[.int .i64 a0_0] rfl (by (try simp only [List.map_toArray, List.map_cons, List.map_nil]); first | done | rfl | (simp only [List.length_drop, List.length_take]; rfl)) ?_; (with_reducible refine (regcertref05_UsesD.calls a0_0 false _ A46.out).mono ?_); rintro e w' ⟨rfl, ⟨nd, rfl⟩⟩; refine ⟨_, rfl, ?_⟩) | (go_at_call 57; (with_reducible refine (regcertref05_UsesA.calls a0_0 true _ A81.out).mono ?_); rintro e w' ⟨rfl, ⟨nd, rfl⟩⟩) | (go_at_call 58; (with_reducible refine (regcertref05_UsesB.calls a0_0 false _ A83.out).mono ?_); rintro e w' ⟨rfl, ⟨nd, rfl⟩⟩))
                        go_ret
                        exact ⟨by first | rfl | (simp [errW_none, errW_some] <;> rfl) | (simp [*, errW_none, errW_some] <;> rfl), by repeat (first | (with_reducible first | exact HB.out | apply below_alloc | apply pw_below_drewN | apply below_drew1 | refine below_set ?_ GE182.out) | exact HB.out)⟩
                  · replace c82 := Bool.eq_false_iff.mpr c82
                    subst c82
                    have H1 : (if a0_2 = 0 then ((regcertref05_UsesB.f a0_0).bind fun t203 => (if t203 = true then (if a0_0 = 1 then (some 0) else (if a0_4 = 0 then (some 0) else (some 12))) else (if a0_3 = 0 then (if a0_0 = 1 then (some 0) else (if a0_4 = 0 then (some 0) else (some 12))) else (some 12)))) else (some 12)) = some r := by rw [if_neg (show ¬ (false = true) by decide)] at H; exact H
                    clear H
                    have H := H1
                    clear H1
                    by_cases c97 : a0_2 = 0
                    · rw [if_pos c97] at H
                      have c97b0 : (a0_2 == 0) = true := beq_iff_eq.mpr c97
                      have c97b1 : (a0_2 != 0) = false := bne_eq_false_iff_eq.mpr c97
                      clear c97
                      replace H := Option.bind_eq_some_iff.mp H
                      obtain ⟨t203, A980, H⟩ := H
                      replace H : (if t203 = true then (if a0_0 = 1 then (some 0) else (if a0_4 = 0 then (some 0) else (some 12))) else (if a0_3 = 0 then (if a0_0 = 1 then (some 0) else (if a0_4 = 0 then (some 0) else (some 12))) else (some 12))) = some r := H
                      have A98 := Aside0.mk A980
                      clear A980
                      by_cases c99 : t203 = true
                      · subst c99
                        have H1 : (if a0_0 = 1 then (some 0) else (if a0_4 = 0 then (some 0) else (some 12))) = some r := by rw [if_pos rfl] at H; exact H
                        clear H
                        have H := H1
                        clear H1
                        by_cases c100 : a0_0 = 1
                        · rw [if_pos c100] at H
                          have c100b0 : (a0_0 == 1) = true := beq_iff_eq.mpr c100
                          have c100b1 : (a0_0 != 1) = false := bne_eq_false_iff_eq.mpr c100
                          clear c100
                          obtain rfl := Option.some.inj H
                          have hcz101_0 : wc.cell? ⟨gb182, 0, none⟩ = some (.int .i64 a0_0) := (blk_cell BK182.out 0).trans rfl
                          have hcz101_1 : wc.cell? ⟨gb182, 1, none⟩ = some (.int .i64 a0_1) := (blk_cell BK182.out 1).trans rfl
                          have hcz101_2 : wc.cell? ⟨gb182, 2, none⟩ = some (.int .i64 a0_2) := (blk_cell BK182.out 2).trans rfl
                          have hcz101_3 : wc.cell? ⟨gb182, 3, none⟩ = some (.int .i64 a0_3) := (blk_cell BK182.out 3).trans rfl
                          have hcz101_4 : wc.cell? ⟨gb182, 4, none⟩ = some (.int .i64 a0_4) := (blk_cell BK182.out 4).trans rfl
                          have hfz101_0 := blk_frozen BK182.out 0
                          have hfz101_1 := blk_frozen BK182.out 1
                          have hfz101_2 := blk_frozen BK182.out 2
                          have hfz101_3 := blk_frozen BK182.out 3
                          have hfz101_4 := blk_frozen BK182.out 4
                          go_wp2_with (first | ((with_reducible refine gate_callee (f := 55) rfl ?_); refine goesL_ (some 49) rfl rfl Try.func55 (by kernel_rfl) rfl #[.int .i64 a0_0] rfl (by (try simp only [List.map_toArray, List.map_cons, List.map_nil]); first | done | rfl | (simp only [List.length_drop, List.length_take]; rfl)) ?_; (with_reducible refine (regcertref05_UsesD.calls a0_0 false _ A46.out).mono ?_); rintro e w' ⟨rfl, ⟨nd, rfl⟩⟩; refine ⟨_, rfl, ?_⟩) | (go_at_call 57; (with_reducible refine (regcertref05_UsesA.calls a0_0 false _ A81.out).mono ?_); rintro e w' ⟨rfl, ⟨nd, rfl⟩⟩) | (go_at_call 58; (with_reducible refine (regcertref05_UsesB.calls a0_0 true _ A98.out).mono ?_); rintro e w' ⟨rfl, ⟨nd, rfl⟩⟩))
                          go_ret
                          exact ⟨by first | rfl | (simp [errW_none, errW_some] <;> rfl) | (simp [*, errW_none, errW_some] <;> rfl), by repeat (first | (with_reducible first | exact HB.out | apply below_alloc | apply pw_below_drewN | apply below_drew1 | refine below_set ?_ GE182.out) | exact HB.out)⟩
                        · rw [if_neg c100] at H
                          have c100b0 : (a0_0 == 1) = false := beq_eq_false_iff_ne.mpr c100
                          have c100b1 : (a0_0 != 1) = true := bne_iff_ne.mpr c100
                          by_cases c102 : a0_4 = 0
                          · rw [if_pos c102] at H
                            have c102b0 : (a0_4 == 0) = true := beq_iff_eq.mpr c102
                            have c102b1 : (a0_4 != 0) = false := bne_eq_false_iff_eq.mpr c102
                            clear c102
                            obtain rfl := Option.some.inj H
                            have hcz103_0 : wc.cell? ⟨gb182, 0, none⟩ = some (.int .i64 a0_0) := (blk_cell BK182.out 0).trans rfl
                            have hcz103_1 : wc.cell? ⟨gb182, 1, none⟩ = some (.int .i64 a0_1) := (blk_cell BK182.out 1).trans rfl
                            have hcz103_2 : wc.cell? ⟨gb182, 2, none⟩ = some (.int .i64 a0_2) := (blk_cell BK182.out 2).trans rfl
                            have hcz103_3 : wc.cell? ⟨gb182, 3, none⟩ = some (.int .i64 a0_3) := (blk_cell BK182.out 3).trans rfl
                            have hcz103_4 : wc.cell? ⟨gb182, 4, none⟩ = some (.int .i64 a0_4) := (blk_cell BK182.out 4).trans rfl
                            have hfz103_0 := blk_frozen BK182.out 0
                            have hfz103_1 := blk_frozen BK182.out 1
                            have hfz103_2 := blk_frozen BK182.out 2
                            have hfz103_3 := blk_frozen BK182.out 3
                            have hfz103_4 := blk_frozen BK182.out 4
                            go_wp2_with (first | ((with_reducible refine gate_callee (f := 55) rfl ?_); refine goesL_ (some 49) rfl rfl Try.func55 (by kernel_rfl) rfl #[.int .i64 a0_0] rfl (by (try simp only [List.map_toArray, List.map_cons, List.map_nil]); first | done | rfl | (simp only [List.length_drop, List.length_take]; rfl)) ?_; (with_reducible refine (regcertref05_UsesD.calls a0_0 false _ A46.out).mono ?_); rintro e w' ⟨rfl, ⟨nd, rfl⟩⟩; refine ⟨_, rfl, ?_⟩) | (go_at_call 57; (with_reducible refine (regcertref05_UsesA.calls a0_0 false _ A81.out).mono ?_); rintro e w' ⟨rfl, ⟨nd, rfl⟩⟩) | (go_at_call 58; (with_reducible refine (regcertref05_UsesB.calls a0_0 true _ A98.out).mono ?_); rintro e w' ⟨rfl, ⟨nd, rfl⟩⟩))
                            go_ret
                            exact ⟨by first | rfl | (simp [errW_none, errW_some] <;> rfl) | (simp [*, errW_none, errW_some] <;> rfl), by repeat (first | (with_reducible first | exact HB.out | apply below_alloc | apply pw_below_drewN | apply below_drew1 | refine below_set ?_ GE182.out) | exact HB.out)⟩
                          · rw [if_neg c102] at H
                            have c102b0 : (a0_4 == 0) = false := beq_eq_false_iff_ne.mpr c102
                            have c102b1 : (a0_4 != 0) = true := bne_iff_ne.mpr c102
                            obtain rfl := Option.some.inj H
                            have hcz104_0 : wc.cell? ⟨gb182, 0, none⟩ = some (.int .i64 a0_0) := (blk_cell BK182.out 0).trans rfl
                            have hcz104_1 : wc.cell? ⟨gb182, 1, none⟩ = some (.int .i64 a0_1) := (blk_cell BK182.out 1).trans rfl
                            have hcz104_2 : wc.cell? ⟨gb182, 2, none⟩ = some (.int .i64 a0_2) := (blk_cell BK182.out 2).trans rfl
                            have hcz104_3 : wc.cell? ⟨gb182, 3, none⟩ = some (.int .i64 a0_3) := (blk_cell BK182.out 3).trans rfl
                            have hcz104_4 : wc.cell? ⟨gb182, 4, none⟩ = some (.int .i64 a0_4) := (blk_cell BK182.out 4).trans rfl
                            have hfz104_0 := blk_frozen BK182.out 0
                            have hfz104_1 := blk_frozen BK182.out 1
                            have hfz104_2 := blk_frozen BK182.out 2
                            have hfz104_3 := blk_frozen BK182.out 3
                            have hfz104_4 := blk_frozen BK182.out 4
                            go_wp2_with (first | ((with_reducible refine gate_callee (f := 55) rfl ?_); refine goesL_ (some 49) rfl rfl Try.func55 (by kernel_rfl) rfl #[.int .i64 a0_0] rfl (by (try simp only [List.map_toArray, List.map_cons, List.map_nil]); first | done | rfl | (simp only [List.length_drop, List.length_take]; rfl)) ?_; (with_reducible refine (regcertref05_UsesD.calls a0_0 false _ A46.out).mono ?_); rintro e w' ⟨rfl, ⟨nd, rfl⟩⟩; refine ⟨_, rfl, ?_⟩) | (go_at_call 57; (with_reducible refine (regcertref05_UsesA.calls a0_0 false _ A81.out).mono ?_); rintro e w' ⟨rfl, ⟨nd, rfl⟩⟩) | (go_at_call 58; (with_reducible refine (regcertref05_UsesB.calls a0_0 true _ A98.out).mono ?_); rintro e w' ⟨rfl, ⟨nd, rfl⟩⟩))
                            go_ret
                            exact ⟨by first | rfl | (simp [errW_none, errW_some] <;> rfl) | (simp [*, errW_none, errW_some] <;> rfl), by repeat (first | (with_reducible first | exact HB.out | apply below_alloc | apply pw_below_drewN | apply below_drew1 | refine below_set ?_ GE182.out) | exact HB.out)⟩
                      · replace c99 := Bool.eq_false_iff.mpr c99
                        subst c99
                        have H1 : (if a0_3 = 0 then (if a0_0 = 1 then (some 0) else (if a0_4 = 0 then (some 0) else (some 12))) else (some 12)) = some r := by rw [if_neg (show ¬ (false = true) by decide)] at H; exact H
                        clear H
                        have H := H1
                        clear H1
                        by_cases c105 : a0_3 = 0
                        · rw [if_pos c105] at H
                          have c105b0 : (a0_3 == 0) = true := beq_iff_eq.mpr c105
                          have c105b1 : (a0_3 != 0) = false := bne_eq_false_iff_eq.mpr c105
                          clear c105
                          by_cases c106 : a0_0 = 1
                          · rw [if_pos c106] at H
                            have c106b0 : (a0_0 == 1) = true := beq_iff_eq.mpr c106
                            have c106b1 : (a0_0 != 1) = false := bne_eq_false_iff_eq.mpr c106
                            clear c106
                            obtain rfl := Option.some.inj H
                            have hcz107_0 : wc.cell? ⟨gb182, 0, none⟩ = some (.int .i64 a0_0) := (blk_cell BK182.out 0).trans rfl
                            have hcz107_1 : wc.cell? ⟨gb182, 1, none⟩ = some (.int .i64 a0_1) := (blk_cell BK182.out 1).trans rfl
                            have hcz107_2 : wc.cell? ⟨gb182, 2, none⟩ = some (.int .i64 a0_2) := (blk_cell BK182.out 2).trans rfl
                            have hcz107_3 : wc.cell? ⟨gb182, 3, none⟩ = some (.int .i64 a0_3) := (blk_cell BK182.out 3).trans rfl
                            have hcz107_4 : wc.cell? ⟨gb182, 4, none⟩ = some (.int .i64 a0_4) := (blk_cell BK182.out 4).trans rfl
                            have hfz107_0 := blk_frozen BK182.out 0
                            have hfz107_1 := blk_frozen BK182.out 1
                            have hfz107_2 := blk_frozen BK182.out 2
                            have hfz107_3 := blk_frozen BK182.out 3
                            have hfz107_4 := blk_frozen BK182.out 4
                            go_wp2_with (first | ((with_reducible refine gate_callee (f := 55) rfl ?_); refine goesL_ (some 49) rfl rfl Try.func55 (by kernel_rfl) rfl #[.int .i64 a0_0] rfl (by (try simp only [List.map_toArray, List.map_cons, List.map_nil]); first | done | rfl | (simp only [List.length_drop, List.length_take]; rfl)) ?_; (with_reducible refine (regcertref05_UsesD.calls a0_0 false _ A46.out).mono ?_); rintro e w' ⟨rfl, ⟨nd, rfl⟩⟩; refine ⟨_, rfl, ?_⟩) | (go_at_call 57; (with_reducible refine (regcertref05_UsesA.calls a0_0 false _ A81.out).mono ?_); rintro e w' ⟨rfl, ⟨nd, rfl⟩⟩) | (go_at_call 58; (with_reducible refine (regcertref05_UsesB.calls a0_0 false _ A98.out).mono ?_); rintro e w' ⟨rfl, ⟨nd, rfl⟩⟩))
                            go_ret
                            exact ⟨by first | rfl | (simp [errW_none, errW_some] <;> rfl) | (simp [*, errW_none, errW_some] <;> rfl), by repeat (first | (with_reducible first | exact HB.out | apply below_alloc | apply pw_below_drewN | apply below_drew1 | refine below_set ?_ GE182.out) | exact HB.out)⟩
                          · rw [if_neg c106] at H
                            have c106b0 : (a0_0 == 1) = false := beq_eq_false_iff_ne.mpr c106
                            have c106b1 : (a0_0 != 1) = true := bne_iff_ne.mpr c106
                            by_cases c108 : a0_4 = 0
                            · rw [if_pos c108] at H
                              have c108b0 : (a0_4 == 0) = true := beq_iff_eq.mpr c108
                              have c108b1 : (a0_4 != 0) = false := bne_eq_false_iff_eq.mpr c108
                              clear c108
                              obtain rfl := Option.some.inj H
                              have hcz109_0 : wc.cell? ⟨gb182, 0, none⟩ = some (.int .i64 a0_0) := (blk_cell BK182.out 0).trans rfl
                              have hcz109_1 : wc.cell? ⟨gb182, 1, none⟩ = some (.int .i64 a0_1) := (blk_cell BK182.out 1).trans rfl
                              have hcz109_2 : wc.cell? ⟨gb182, 2, none⟩ = some (.int .i64 a0_2) := (blk_cell BK182.out 2).trans rfl
                              have hcz109_3 : wc.cell? ⟨gb182, 3, none⟩ = some (.int .i64 a0_3) := (blk_cell BK182.out 3).trans rfl
                              have hcz109_4 : wc.cell? ⟨gb182, 4, none⟩ = some (.int .i64 a0_4) := (blk_cell BK182.out 4).trans rfl
                              have hfz109_0 := blk_frozen BK182.out 0
                              have hfz109_1 := blk_frozen BK182.out 1
                              have hfz109_2 := blk_frozen BK182.out 2
                              have hfz109_3 := blk_frozen BK182.out 3
                              have hfz109_4 := blk_frozen BK182.out 4
                              go_wp2_with (first | ((with_reducible refine gate_callee (f := 55) rfl ?_); refine goesL_ (some 49) rfl rfl Try.func55 (by kernel_rfl) rfl #[.int .i64 a0_0] rfl (by (try simp only [List.map_toArray, List.map_cons, List.map_nil]); first | done | rfl | (simp only [List.length_drop, List.length_take]; rfl)) ?_; (with_reducible refine (regcertref05_UsesD.calls a0_0 false _ A46.out).mono ?_); rintro e w' ⟨rfl, ⟨nd, rfl⟩⟩; refine ⟨_, rfl, ?_⟩) | (go_at_call 57; (with_reducible refine (regcertref05_UsesA.calls a0_0 false _ A81.out).mono ?_); rintro e w' ⟨rfl, ⟨nd, rfl⟩⟩) | (go_at_call 58; (with_reducible refine (regcertref05_UsesB.calls a0_0 false _ A98.out).mono ?_); rintro e w' ⟨rfl, ⟨nd, rfl⟩⟩))
                              go_ret
                              exact ⟨by first | rfl | (simp [errW_none, errW_some] <;> rfl) | (simp [*, errW_none, errW_some] <;> rfl), by repeat (first | (with_reducible first | exact HB.out | apply below_alloc | apply pw_below_drewN | apply below_drew1 | refine below_set ?_ GE182.out) | exact HB.out)⟩
                            · rw [if_neg c108] at H
                              have c108b0 : (a0_4 == 0) = false := beq_eq_false_iff_ne.mpr c108
                              have c108b1 : (a0_4 != 0) = true := bne_iff_ne.mpr c108
                              obtain rfl := Option.some.inj H
                              have hcz110_0 : wc.cell? ⟨gb182, 0, none⟩ = some (.int .i64 a0_0) := (blk_cell BK182.out 0).trans rfl
                              have hcz110_1 : wc.cell? ⟨gb182, 1, none⟩ = some (.int .i64 a0_1) := (blk_cell BK182.out 1).trans rfl
                              have hcz110_2 : wc.cell? ⟨gb182, 2, none⟩ = some (.int .i64 a0_2) := (blk_cell BK182.out 2).trans rfl
                              have hcz110_3 : wc.cell? ⟨gb182, 3, none⟩ = some (.int .i64 a0_3) := (blk_cell BK182.out 3).trans rfl
                              have hcz110_4 : wc.cell? ⟨gb182, 4, none⟩ = some (.int .i64 a0_4) := (blk_cell BK182.out 4).trans rfl
                              have hfz110_0 := blk_frozen BK182.out 0
                              have hfz110_1 := blk_frozen BK182.out 1
                              have hfz110_2 := blk_frozen BK182.out 2
                              have hfz110_3 := blk_frozen BK182.out 3
                              have hfz110_4 := blk_frozen BK182.out 4
                              go_wp2_with (first | ((with_reducible refine gate_callee (f := 55) rfl ?_); refine goesL_ (some 49) rfl rfl Try.func55 (by kernel_rfl) rfl #[.int .i64 a0_0] rfl (by (try simp only [List.map_toArray, List.map_cons, List.map_nil]); first | done | rfl | (simp only [List.length_drop, List.length_take]; rfl)) ?_; (with_reducible refine (regcertref05_UsesD.calls a0_0 false _ A46.out).mono ?_); rintro e w' ⟨rfl, ⟨nd, rfl⟩⟩; refine ⟨_, rfl, ?_⟩) | (go_at_call 57; (with_reducible refine (regcertref05_UsesA.calls a0_0 false _ A81.out).mono ?_); rintro e w' ⟨rfl, ⟨nd, rfl⟩⟩) | (go_at_call 58; (with_reducible refine (regcertref05_UsesB.calls a0_0 false _ A98.out).mono ?_); rintro e w' ⟨rfl, ⟨nd, rfl⟩⟩))
                              go_ret
                              exact ⟨by first | rfl | (simp [errW_none, errW_some] <;> rfl) | (simp [*, errW_none, errW_some] <;> rfl), by repeat (first | (with_reducible first | exact HB.out | apply below_alloc | apply pw_below_drewN | apply below_drew1 | refine below_set ?_ GE182.out) | exact HB.out)⟩
                        · rw [if_neg c105] at H
                          have c105b0 : (a0_3 == 0) = false := beq_eq_false_iff_ne.mpr c105
                          have c105b1 : (a0_3 != 0) = true := bne_iff_ne.mpr c105
                          obtain rfl := Option.some.inj H
                          have hcz111_0 : wc.cell? ⟨gb182, 0, none⟩ = some (.int .i64 a0_0) := (blk_cell BK182.out 0).trans rfl
                          have hcz111_1 : wc.cell? ⟨gb182, 1, none⟩ = some (.int .i64 a0_1) := (blk_cell BK182.out 1).trans rfl
                          have hcz111_2 : wc.cell? ⟨gb182, 2, none⟩ = some (.int .i64 a0_2) := (blk_cell BK182.out 2).trans rfl
                          have hcz111_3 : wc.cell? ⟨gb182, 3, none⟩ = some (.int .i64 a0_3) := (blk_cell BK182.out 3).trans rfl
                          have hcz111_4 : wc.cell? ⟨gb182, 4, none⟩ = some (.int .i64 a0_4) := (blk_cell BK182.out 4).trans rfl
                          have hfz111_0 := blk_frozen BK182.out 0
                          have hfz111_1 := blk_frozen BK182.out 1
                          have hfz111_2 := blk_frozen BK182.out 2
                          have hfz111_3 := blk_frozen BK182.out 3
                          have hfz111_4 := blk_frozen BK182.out 4
                          go_wp2_with (first | ((with_reducible refine gate_callee (f := 55) rfl ?_); refine goesL_ (some 49) rfl rfl Try.func55 (by kernel_rfl) rfl #[.int .i64 a0_0] rfl (by (try simp only [List.map_toArray, List.map_cons, List.map_nil]); first | done | rfl | (simp only [List.length_drop, List.length_take]; rfl)) ?_; (with_reducible refine (regcertref05_UsesD.calls a0_0 false _ A46.out).mono ?_); rintro e w' ⟨rfl, ⟨nd, rfl⟩⟩; refine ⟨_, rfl, ?_⟩) | (go_at_call 57; (with_reducible refine (regcertref05_UsesA.calls a0_0 false _ A81.out).mono ?_); rintro e w' ⟨rfl, ⟨nd, rfl⟩⟩) | (go_at_call 58; (with_reducible refine (regcertref05_UsesB.calls a0_0 false _ A98.out).mono ?_); rintro e w' ⟨rfl, ⟨nd, rfl⟩⟩))
                          go_ret
                          exact ⟨by first | rfl | (simp [errW_none, errW_some] <;> rfl) | (simp [*, errW_none, errW_some] <;> rfl), by repeat (first | (with_reducible first | exact HB.out | apply below_alloc | apply pw_below_drewN | apply below_drew1 | refine below_set ?_ GE182.out) | exact HB.out)⟩
                    · rw [if_neg c97] at H
                      have c97b0 : (a0_2 == 0) = false := beq_eq_false_iff_ne.mpr c97
                      have c97b1 : (a0_2 != 0) = true := bne_iff_ne.mpr c97
                      obtain rfl := Option.some.inj H
                      have hcz112_0 : wc.cell? ⟨gb182, 0, none⟩ = some (.int .i64 a0_0) := (blk_cell BK182.out 0).trans rfl
                      have hcz112_1 : wc.cell? ⟨gb182, 1, none⟩ = some (.int .i64 a0_1) := (blk_cell BK182.out 1).trans rfl
                      have hcz112_2 : wc.cell? ⟨gb182, 2, none⟩ = some (.int .i64 a0_2) := (blk_cell BK182.out 2).trans rfl
                      have hcz112_3 : wc.cell? ⟨gb182, 3, none⟩ = some (.int .i64 a0_3) := (blk_cell BK182.out 3).trans rfl
                      have hcz112_4 : wc.cell? ⟨gb182, 4, none⟩ = some (.int .i64 a0_4) := (blk_cell BK182.out 4).trans rfl
                      have hfz112_0 := blk_frozen BK182.out 0
                      have hfz112_1 := blk_frozen BK182.out 1
                      have hfz112_2 := blk_frozen BK182.out 2
                      have hfz112_3 := blk_frozen BK182.out 3
                      have hfz112_4 := blk_frozen BK182.out 4
                      go_wp2_with (first | ((with_reducible refine gate_callee (f := 55) rfl ?_); refine goesL_ (some 49) rfl rfl Try.func55 (by kernel_rfl) rfl #[.int .i64 a0_0] rfl (by (try simp only [List.map_toArray, List.map_cons, List.map_nil]); first | done | rfl | (simp only [List.length_drop, List.length_take]; rfl)) ?_; (with_reducible refine (regcertref05_UsesD.calls a0_0 false _ A46.out).mono ?_); rintro e w' ⟨rfl, ⟨nd, rfl⟩⟩; refine ⟨_, rfl, ?_⟩) | (go_at_call 57; (with_reducible refine (regcertref05_UsesA.calls a0_0 false _ A81.out).mono ?_); rintro e w' ⟨rfl, ⟨nd, rfl⟩⟩))
                      go_ret
                      exact ⟨by first | rfl | (simp [errW_none, errW_some] <;> rfl) | (simp [*, errW_none, errW_some] <;> rfl), by repeat (first | (with_reducible first | exact HB.out | apply below_alloc | apply pw_below_drewN | apply below_drew1 | refine below_set ?_ GE182.out) | exact HB.out)⟩
                · rw [if_neg c80] at H
                  have c80b0 : (a0_1 == 0) = false := beq_eq_false_iff_ne.mpr c80
                  have c80b1 : (a0_1 != 0) = true := bne_iff_ne.mpr c80
                  obtain rfl := Option.some.inj H
                  have hcz113_0 : wc.cell? ⟨gb182, 0, none⟩ = some (.int .i64 a0_0) := (blk_cell BK182.out 0).trans rfl
                  have hcz113_1 : wc.cell? ⟨gb182, 1, none⟩ = some (.int .i64 a0_1) := (blk_cell BK182.out 1).trans rfl
                  have hcz113_2 : wc.cell? ⟨gb182, 2, none⟩ = some (.int .i64 a0_2) := (blk_cell BK182.out 2).trans rfl
                  have hcz113_3 : wc.cell? ⟨gb182, 3, none⟩ = some (.int .i64 a0_3) := (blk_cell BK182.out 3).trans rfl
                  have hcz113_4 : wc.cell? ⟨gb182, 4, none⟩ = some (.int .i64 a0_4) := (blk_cell BK182.out 4).trans rfl
                  have hfz113_0 := blk_frozen BK182.out 0
                  have hfz113_1 := blk_frozen BK182.out 1
                  have hfz113_2 := blk_frozen BK182.out 2
                  have hfz113_3 := blk_frozen BK182.out 3
                  have hfz113_4 := blk_frozen BK182.out 4
                  go_wp2_with (first | ((with_reducible refine gate_callee (f := 55) rfl ?_); refine goesL_ (some 49) rfl rfl Try.func55 (by kernel_rfl) rfl #[.int .i64 a0_0] rfl (by (try simp only [List.map_toArray, List.map_cons, List.map_nil]); first | done | rfl | (simp only [List.length_drop, List.length_take]; rfl)) ?_; (with_reducible refine (regcertref05_UsesD.calls a0_0 false _ A46.out).mono ?_); rintro e w' ⟨rfl, ⟨nd, rfl⟩⟩; refine ⟨_, rfl, ?_⟩))
                  go_ret
                  exact ⟨by first | rfl | (simp [errW_none, errW_some] <;> rfl) | (simp [*, errW_none, errW_some] <;> rfl), by repeat (first | (with_reducible first | exact HB.out | apply below_alloc | apply pw_below_drewN | apply below_drew1 | refine below_set ?_ GE182.out) | exact HB.out)⟩
end Go.Proofs.Ytndbpljldmnkcaa.PSourceMatchesReference
