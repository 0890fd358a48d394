/- A function is accepted exactly if its counts are valid, all its instructions and terminators are, and no run of moves is longer than MaxMoves. No condition. -/
import Derived.Test.YtihnbkoeaaepiaaZMachineCheck21
import Derived.Test.YtihnbkoeaaepiaaZMachineCheck22
import Derived.Test.YtihnbkoeaaepiaaZMachineCheck23
import Derived.Test.YtihnbkoeaaepiaaZMachineCheck25
namespace Go.Proofs.Ytihnbkoeaaepiaa.PMachineCheck
open Go.RowKit Go.Proofs.YtihnbkoeaaepiaaW.PrintWords Go.Proofs.YtihnbkoeaaepiaaW.PrintLast Go.Proofs.YtihnbkoeaaepiaaW.PrintMore
attribute [local go_sem] max2_int min2_int max_two min_two max_three min_three max_four min_four   
set_option linter.unusedVariables false
set_option linter.unusedSimpArgs false
def regcertlaw08_awake.l0 : Nat → List (S67) → Int → Int → Int → Int → Int → Int → Int → Int → Option (Bool)
  | 0, _, _, _, _, _, _, _, _, _ => none
  | k + 1, x2, x3, x167000, x167001, x167002, x167003, x167004, x167005, x167006 => if x3 < 65 then (if 0 ≤ x3 then (if x3 < (x2.length : Int) then (regcertlaw08_awake.l0 k (x2.set (x3 : Int).toNat (⟨x167000, x167001, x167002, x167003, x167004, x167005, x167006⟩ : S67)) (wrap64 (x3 + 1)) x167000 x167001 x167002 x167003 x167004 x167005 x167006) else (none)) else (none)) else (if 64 ≤ (x2.length : Int) then ((some (([(⟨x2, (⟨3, 0, 0, 0⟩ : S72)⟩ : S74)] : List (S74)) : List (S74))).bind fun y180 => ((machine_Instr.f k x167000 x167001 x167002 x167003 x167004 x167005 x167006 1 1).bind fun t184 => (if t184 = 0 then ((machine_Instr.f k 18 0 0 0 0 3 1 9 9).bind fun t185 => (if t185 = 10 then ((machine_Instr.f k 2 0 0 0 0 0 0 9 9).bind fun t186 => (if t186 = 8 then ((machine_Check.f k 0 1 1 (([(⟨(x2.take 64), (⟨3, 0, 0, 0⟩ : S72)⟩ : S74)] : List (S74)))).bind fun t187 => (if t187 = 0 then ((machine_Check.f k 0 1 1 y180).bind fun t188 => (if t188 = 15 then ((machine_Moves.f k x2).bind fun t189 => (if t189 = 65 then ((machine_Code.f k 0 1 1 y180).bind fun t190 => (if t190 = 65 then ((machine_Check.f k 0 0 0 ([] : List (S74))).bind fun t191 => (some (t191 == 14))) else (none))) else (none))) else (none))) else (none))) else (none))) else (none))) else (none)))) else (none))
def regcertlaw08_awake.f (k : Nat)  : Option (Bool) := if 65 ≤ 5026338869833 then (regcertlaw08_awake.l0 k (List.replicate 65 z67) 0 18 0 0 0 0 0 1) else (none)
theorem regcertlaw08_awake.mono_l : ∀ k, (∀ y0 y1 y2 y3 y4 y5 y6 y7 y8, LeO (regcertlaw08_awake.l0 k y0 y1 y2 y3 y4 y5 y6 y7 y8) (regcertlaw08_awake.l0 (k + 1) y0 y1 y2 y3 y4 y5 y6 y7 y8))
  | 0 => fun _ _ _ _ _ _ _ _ _ r h => by simp [regcertlaw08_awake.l0] at h
  | k + 1 => by
    have ih0 := regcertlaw08_awake.mono_l k
    · intro y0 y1 y2 y3 y4 y5 y6 y7 y8
      unfold regcertlaw08_awake.l0
      repeat' first
      | (with_reducible exact ih0 _ _ _ _ _ _ _ _ _)
      | (with_reducible exact machine_Check.mono _ _ _ _ _)
      | (with_reducible exact machine_Code.mono _ _ _ _ _)
      | (with_reducible exact machine_Instr.mono _ _ _ _ _ _ _ _ _ _)
      | (with_reducible exact machine_Moves.mono _ _)
      | (with_reducible exact LeO.refl _)
      | (with_reducible exact LeO.none _)
      | (with_reducible refine LeO.ite ?_ ?_)
      | (with_reducible refine LeO.bind ?_ (fun _ => ?_))
      | exact ih0 _ _ _ _ _ _ _ _ _
      | exact machine_Check.mono _ _ _ _ _
      | exact machine_Code.mono _ _ _ _ _
      | exact machine_Instr.mono _ _ _ _ _ _ _ _ _ _
      | exact machine_Moves.mono _ _
      | exact LeO.none _
      | refine LeO.ite ?_ ?_
      | refine LeO.bind ?_ (fun _ => ?_)
theorem regcertlaw08_awake.mono : ∀ k, LeO (regcertlaw08_awake.f k ) (regcertlaw08_awake.f (k + 1) ) := by
  intro  k
  have ih0 := regcertlaw08_awake.mono_l k
  unfold regcertlaw08_awake.f
  repeat' first
      | (with_reducible exact ih0 _ _ _ _ _ _ _ _ _)
      | (with_reducible exact machine_Check.mono _ _ _ _ _)
      | (with_reducible exact machine_Code.mono _ _ _ _ _)
      | (with_reducible exact machine_Instr.mono _ _ _ _ _ _ _ _ _ _)
      | (with_reducible exact machine_Moves.mono _ _)
      | (with_reducible exact LeO.refl _)
      | (with_reducible exact LeO.none _)
      | (with_reducible refine LeO.ite ?_ ?_)
      | (with_reducible refine LeO.bind ?_ (fun _ => ?_))
      | exact ih0 _ _ _ _ _ _ _ _ _
      | exact machine_Check.mono _ _ _ _ _
      | exact machine_Code.mono _ _ _ _ _
      | exact machine_Instr.mono _ _ _ _ _ _ _ _ _ _
      | exact machine_Moves.mono _ _
      | exact LeO.none _
      | refine LeO.ite ?_ ?_
      | refine LeO.bind ?_ (fun _ => ?_)
set_option maxHeartbeats 8000000 in
set_option maxRecDepth 100000 in
theorem regcertlaw08_awake.calls (k : Nat)  (r : Bool) (w : World) (h : regcertlaw08_awake.f k  = some r) :
    Calls Try.prog 32 #[] w fun e w' => e = .returned (.bool r) ∧ Below w.heap.size w w' := by
  have hu67 := Try.underlying67
  have hu72 := Try.underlying72
  have hu74 := Try.underlying74
  have hu64 := Try.underlying64
  have HB := Aside0.mk (Below.refl w.heap.size w)
  have H : (if 65 ≤ 5026338869833 then (regcertlaw08_awake.l0 k (List.replicate 65 z67) 0 18 0 0 0 0 0 1) else (none)) = some r := h
  clear h
  by_cases c1 : 65 ≤ 5026338869833
  · rw [if_pos c1] at H
    have c1b0 := eq_true c1
    have c1b1 : decide (65 ≤ 5026338869833) = true := decide_eq_true c1
    clear c1
    obtain ⟨y167, hy167⟩ : ∃ y_ : List (S67), y_ = (List.replicate 65 z67) := ⟨_, rfl⟩
    replace H : (regcertlaw08_awake.l0 k y167 0 18 0 0 0 0 0 1) = some r := by first | (rw [hy167]; with_reducible exact H) | (have H2_ := (Option.bind_some _ _).symm.trans H; rw [hy167]; with_reducible exact H2_) | (have H2_ := (Option.bind_some _ _).symm.trans H; with_reducible exact H2_) | with_reducible exact H | (rw [hy167]; exact H) | exact H
    have Ny167 := Aside0.mk hy167
    clear hy167
    have H' := Aside0.mk H
    clear H
    go_enter Try.func32, Try.ntmps32
    go_wp2_with (first | ((with_reducible refine gate_dst (N := 1) rfl ?_); refine box_event ?hg (N := 1) ?hd (cs := #[.int .i64 0, .int .i64 0, .int .i64 0, .int .i64 0, .int .i64 0, .int .i64 0, .int .i64 0]) (t := 67) ?hr ?_; (case hd => rfl); (case hg => rfl); (case hr => first | (go_simp; done) | (go_simp; rfl)); intro gb166 hg w2 hbox hb; have n0_ := Aside0.mk (below_step (by repeat (first | (with_reducible first | exact HB.out | apply below_alloc | apply pw_below_drewN | apply below_drew1) | exact HB.out)) hb); have n1_ := Aside0.mk (hbox); have n2_ := Aside0.mk ((by rw [hg]; exact (below_size (by repeat (first | (with_reducible first | exact HB.out | apply below_alloc | apply pw_below_drewN | apply below_drew1) | exact HB.out))) : w.heap.size ≤ gb166)); have n3_ := Aside0.mk ((by rw [hg]; exact (below_size (by repeat (first | (with_reducible first | exact HB.out | apply below_alloc | apply pw_below_drewN | apply below_drew1) | exact HB.out))) : w.heap.size ≤ gb166)); clear HB; have HB := n0_; have BK166 := n1_; have GW166 := n2_; have GE166 := n3_; clear n0_ n1_ n2_ n3_; clear hb hbox hg; have hcz3_0 : w2.cell? ⟨gb166, 0, none⟩ = some (.int .i64 0) := (blk_cell BK166.out 0).trans rfl; have hcz3_1 : w2.cell? ⟨gb166, 1, none⟩ = some (.int .i64 0) := (blk_cell BK166.out 1).trans rfl; have hcz3_2 : w2.cell? ⟨gb166, 2, none⟩ = some (.int .i64 0) := (blk_cell BK166.out 2).trans rfl; have hcz3_3 : w2.cell? ⟨gb166, 3, none⟩ = some (.int .i64 0) := (blk_cell BK166.out 3).trans rfl; have hcz3_4 : w2.cell? ⟨gb166, 4, none⟩ = some (.int .i64 0) := (blk_cell BK166.out 4).trans rfl; have hcz3_5 : w2.cell? ⟨gb166, 5, none⟩ = some (.int .i64 0) := (blk_cell BK166.out 5).trans rfl; have hcz3_6 : w2.cell? ⟨gb166, 6, none⟩ = some (.int .i64 0) := (blk_cell BK166.out 6).trans rfl; have hfz3_0 := blk_frozen BK166.out 0; have hfz3_1 := blk_frozen BK166.out 1; have hfz3_2 := blk_frozen BK166.out 2; have hfz3_3 := blk_frozen BK166.out 3; have hfz3_4 := blk_frozen BK166.out 4; have hfz3_5 := blk_frozen BK166.out 5; have hfz3_6 := blk_frozen BK166.out 6) | ((with_reducible refine gate_dst (N := 7) rfl ?_); refine Kd.R_make k67 _ 67 rfl (N := 7) rfl 70 _ _ rfl 65 rfl rfl Try.underlying70 (.agg #[(.int .i64 0), (.int .i64 0), (.int .i64 0), (.int .i64 0), (.int .i64 0), (.int .i64 0), (.int .i64 0)]) 56 info67 rfl (by decide) (by omega) z67 (ok := fun _ => True) (okp := fun _ => True) (k67_mkM _ _ _ z67 ) (fun _ hk => hk) trivial (by omega) (by omega) (Below.refl _ _) (Nat.le_refl _) ?_; intro v168 w4 ho5 hb hg_ hnew_; clear hg_ hnew_; (first | rw [← Ny167.out] at ho5 | (simp only [Int.reduceToNat] at ho5; rw [← Ny167.out] at ho5)); have n0_ := Aside0.mk (Kd.R_lower (Kd.R_newB ho5 (g := gb166) (o := .cells #[.int .i64 18, .int .i64 0, .int .i64 0, .int .i64 0, .int .i64 0, .int .i64 0, .int .i64 1] 67 (0, 0)) (by (with_reducible repeat (first | refine blk_drewN ?_ _ | refine blk_drew ?_ | refine blk_alloc ?_ _)); refine blk_put (cs := #[.int .i64 18, .int .i64 0, .int .i64 0, .int .i64 0, .int .i64 0, .int .i64 0, .int .i64 0]) ?_ 6 _ rfl; (with_reducible repeat (first | refine blk_drewN ?_ _ | refine blk_drew ?_ | refine blk_alloc ?_ _)); refine blk_put (cs := #[.int .i64 18, .int .i64 0, .int .i64 0, .int .i64 0, .int .i64 0, .int .i64 0, .int .i64 0]) ?_ 5 _ rfl; (with_reducible repeat (first | refine blk_drewN ?_ _ | refine blk_drew ?_ | refine blk_alloc ?_ _)); refine blk_put (cs := #[.int .i64 18, .int .i64 0, .int .i64 0, .int .i64 0, .int .i64 0, .int .i64 0, .int .i64 0]) ?_ 4 _ rfl; (with_reducible repeat (first | refine blk_drewN ?_ _ | refine blk_drew ?_ | refine blk_alloc ?_ _)); refine blk_put (cs := #[.int .i64 18, .int .i64 0, .int .i64 0, .int .i64 0, .int .i64 0, .int .i64 0, .int .i64 0]) ?_ 3 _ rfl; (with_reducible repeat (first | refine blk_drewN ?_ _ | refine blk_drew ?_ | refine blk_alloc ?_ _)); refine blk_put (cs := #[.int .i64 18, .int .i64 0, .int .i64 0, .int .i64 0, .int .i64 0, .int .i64 0, .int .i64 0]) ?_ 2 _ rfl; (with_reducible repeat (first | refine blk_drewN ?_ _ | refine blk_drew ?_ | refine blk_alloc ?_ _)); refine blk_put (cs := #[.int .i64 18, .int .i64 0, .int .i64 0, .int .i64 0, .int .i64 0, .int .i64 0, .int .i64 0]) ?_ 1 _ rfl; (with_reducible repeat (first | refine blk_drewN ?_ _ | refine blk_drew ?_ | refine blk_alloc ?_ _)); refine blk_put (cs := #[.int .i64 0, .int .i64 0, .int .i64 0, .int .i64 0, .int .i64 0, .int .i64 0, .int .i64 0]) ?_ 0 _ rfl; (with_reducible repeat (first | refine blk_drewN ?_ _ | refine blk_drew ?_ | refine blk_alloc ?_ _)); exact BK166.out)) (below_size (by repeat (first | (with_reducible first | exact HB.out | apply below_alloc | apply pw_below_drewN | apply below_drew1 | refine below_set ?_ GE166.out) | exact HB.out)))); have n1_ := Aside0.mk (blk_below (g := gb166) (o := .cells #[.int .i64 18, .int .i64 0, .int .i64 0, .int .i64 0, .int .i64 0, .int .i64 0, .int .i64 1] 67 (0, 0)) (by (with_reducible repeat (first | refine blk_drewN ?_ _ | refine blk_drew ?_ | refine blk_alloc ?_ _)); refine blk_put (cs := #[.int .i64 18, .int .i64 0, .int .i64 0, .int .i64 0, .int .i64 0, .int .i64 0, .int .i64 0]) ?_ 6 _ rfl; (with_reducible repeat (first | refine blk_drewN ?_ _ | refine blk_drew ?_ | refine blk_alloc ?_ _)); refine blk_put (cs := #[.int .i64 18, .int .i64 0, .int .i64 0, .int .i64 0, .int .i64 0, .int .i64 0, .int .i64 0]) ?_ 5 _ rfl; (with_reducible repeat (first | refine blk_drewN ?_ _ | refine blk_drew ?_ | refine blk_alloc ?_ _)); refine blk_put (cs := #[.int .i64 18, .int .i64 0, .int .i64 0, .int .i64 0, .int .i64 0, .int .i64 0, .int .i64 0]) ?_ 4 _ rfl; (with_reducible repeat (first | refine blk_drewN ?_ _ | refine blk_drew ?_ | refine blk_alloc ?_ _)); refine blk_put (cs := #[.int .i64 18, .int .i64 0, .int .i64 0, .int .i64 0, .int .i64 0, .int .i64 0, .int .i64 0]) ?_ 3 _ rfl; (with_reducible repeat (first | refine blk_drewN ?_ _ | refine blk_drew ?_ | refine blk_alloc ?_ _)); refine blk_put (cs := #[.int .i64 18, .int .i64 0, .int .i64 0, .int .i64 0, .int .i64 0, .int .i64 0, .int .i64 0]) ?_ 2 _ rfl; (with_reducible repeat (first | refine blk_drewN ?_ _ | refine blk_drew ?_ | refine blk_alloc ?_ _)); refine blk_put (cs := #[.int .i64 18, .int .i64 0, .int .i64 0, .int .i64 0, .int .i64 0, .int .i64 0, .int .i64 0]) ?_ 1 _ rfl; (with_reducible repeat (first | refine blk_drewN ?_ _ | refine blk_drew ?_ | refine blk_alloc ?_ _)); refine blk_put (cs := #[.int .i64 0, .int .i64 0, .int .i64 0, .int .i64 0, .int .i64 0, .int .i64 0, .int .i64 0]) ?_ 0 _ rfl; (with_reducible repeat (first | refine blk_drewN ?_ _ | refine blk_drew ?_ | refine blk_alloc ?_ _)); exact BK166.out) hb); have n2_ := Aside0.mk (below_step (by repeat (first | (with_reducible first | exact HB.out | apply below_alloc | apply pw_below_drewN | apply below_drew1 | refine below_set ?_ GE166.out) | exact HB.out)) hb); clear BK166; clear HB; have HO169 := n0_; have BK166 := n1_; have HB := n2_; clear n0_ n1_ n2_; clear hb ho5))
    go_loopg [3] k (fun kq v3 w' => ∃ (x2_1 : List (S67)) (x3_1 : Int) (x167000_1 : Int) (x167001_1 : Int) (x167002_1 : Int) (x167003_1 : Int) (x167004_1 : Int) (x167005_1 : Int) (x167006_1 : Int), v3 = .int .i64 x3_1 ∧ Aside0 (regcertlaw08_awake.l0 kq x2_1 x3_1 x167000_1 x167001_1 x167002_1 x167003_1 x167004_1 x167005_1 x167006_1 = some r) ∧ Aside0 (kq ≤ k) ∧ Aside0 (Kd.R k67 67 w' w.heap.size (fun k_ => k_ ≠ gb166) v168 x2_1) ∧ Aside0 (w'.heap[gb166]? = some (.cells #[.int .i64 x167000_1, .int .i64 x167001_1, .int .i64 x167002_1, .int .i64 x167003_1, .int .i64 x167004_1, .int .i64 x167005_1, .int .i64 x167006_1] 67 (0, 0))) ∧ Aside0 (Below w.heap.size w w'))
    case atStart => exact ⟨(y167), (0), (18), (0), (0), (0), (0), (0), (1), (by first | rfl | (simp; done) | (simp [*]; done)), H', ⟨Nat.le_refl _⟩, ⟨by (with_reducible repeat (first | apply Kd.R_alloc | apply Kd.R_drewN | apply Kd.R_drew)); exact Kd.R_mono HO169.out (fun _ hk => hk.2)⟩, ⟨by (with_reducible repeat (first | refine blk_drewN ?_ _ | refine blk_drew ?_ | refine blk_alloc ?_ _)); exact BK166.out⟩, ⟨by repeat (first | (with_reducible first | exact HB.out | apply below_alloc | apply pw_below_drewN | apply below_drew1 | refine below_set ?_ GE166.out) | exact HB.out)⟩⟩
    case round =>
      clear H'
      try clear c1
      try clear c1b0
      try clear c1b1
      try clear p2
      try clear c3
      try clear hcz3_0
      try clear hcz3_1
      try clear hcz3_2
      try clear hcz3_3
      try clear hcz3_4
      try clear hcz3_5
      try clear hcz3_6
      try clear hfz3_0
      try clear hfz3_1
      try clear hfz3_2
      try clear hfz3_3
      try clear hfz3_4
      try clear hfz3_5
      try clear hfz3_6
      obtain ⟨x2_1, x3_1, x167000_1, x167001_1, x167002_1, x167003_1, x167004_1, x167005_1, x167006_1, rfl, HA, HK1, HO_2, BK166, HB⟩ := hrel
      cases gk with
      | zero => exact absurd HA.out (by simp [regcertlaw08_awake.l0])
      | succ k1 =>
        have H := HA.out
        clear HA
        simp only [regcertlaw08_awake.l0] at H
        by_cases c6 : x3_1 < 65
        · rw [if_pos c6] at H
          have c6b0 : decide (x3_1 < 65) = true := decide_eq_true c6
          clear c6
          by_cases c7 : 0 ≤ x3_1
          · rw [if_pos c7] at H
            have c7b0 : decide (0 ≤ x3_1) = true := decide_eq_true c7
            clear c7
            by_cases c8 : x3_1 < (x2_1.length : Int)
            · rw [if_pos c8] at H
              have c8b0 : decide (x3_1 < (x2_1.length : Int)) = true := decide_eq_true c8
              clear c8
              obtain ⟨y170, hy170⟩ : ∃ y_ : List (S67), y_ = (x2_1.set (x3_1 : Int).toNat (⟨x167000_1, x167001_1, x167002_1, x167003_1, x167004_1, x167005_1, x167006_1⟩ : S67)) := ⟨_, rfl⟩
              replace H : (regcertlaw08_awake.l0 k1 y170 (wrap64 (x3_1 + 1)) x167000_1 x167001_1 x167002_1 x167003_1 x167004_1 x167005_1 x167006_1) = some r := by first | (rw [hy170]; with_reducible exact H) | (have H2_ := (Option.bind_some _ _).symm.trans H; rw [hy170]; with_reducible exact H2_) | (have H2_ := (Option.bind_some _ _).symm.trans H; with_reducible exact H2_) | with_reducible exact H | (rw [hy170]; exact H) | exact H
              have Ny170 := Aside0.mk hy170
              clear hy170
              have H' := Aside0.mk H
              clear H
              have hcz10_0 : wr.cell? ⟨gb166, 0, none⟩ = some (.int .i64 x167000_1) := (blk_cell BK166.out 0).trans rfl
              have hcz10_1 : wr.cell? ⟨gb166, 1, none⟩ = some (.int .i64 x167001_1) := (blk_cell BK166.out 1).trans rfl
              have hcz10_2 : wr.cell? ⟨gb166, 2, none⟩ = some (.int .i64 x167002_1) := (blk_cell BK166.out 2).trans rfl
              have hcz10_3 : wr.cell? ⟨gb166, 3, none⟩ = some (.int .i64 x167003_1) := (blk_cell BK166.out 3).trans rfl
              have hcz10_4 : wr.cell? ⟨gb166, 4, none⟩ = some (.int .i64 x167004_1) := (blk_cell BK166.out 4).trans rfl
              have hcz10_5 : wr.cell? ⟨gb166, 5, none⟩ = some (.int .i64 x167005_1) := (blk_cell BK166.out 5).trans rfl
              have hcz10_6 : wr.cell? ⟨gb166, 6, none⟩ = some (.int .i64 x167006_1) := (blk_cell BK166.out 6).trans rfl
              have hfz10_0 := blk_frozen BK166.out 0
              have hfz10_1 := blk_frozen BK166.out 1
              have hfz10_2 := blk_frozen BK166.out 2
              have hfz10_3 := blk_frozen BK166.out 3
              have hfz10_4 := blk_frozen BK166.out 4
              have hfz10_5 := blk_frozen BK166.out 5
              have hfz10_6 := blk_frozen BK166.out 6
              have p9 : 0 ≤ (x3_1 : Int) := of_decide_eq_true (by first | (with_reducible assumption) | assumption)
              have q9 : (x3_1 : Int) < ((x2_1.length : Int) : Int) := of_decide_eq_true (by first | (with_reducible assumption) | assumption)
              obtain ⟨go9, co9, eo9, gb9, gl9, cl9, HG9⟩ := Kd.R_form HO_2.out (by omega)
              (first | cases eo9 | (injection eo9 with ea_ en_ ec_; (first | subst ea_ | (injection ea_ with ea_; subst ea_)); subst ec_; clear en_))
              have GB9 := Aside0.mk gb9
              have GG9 := Aside0.mk HG9
              clear gb9 gl9 HG9
              obtain ⟨ce9, hcl9, hM9, hcc9, hfr9⟩ := Kd.R_elem HO_2.out z67 (x3_1 : Int) p9 q9
              obtain rfl := k67_openM hM9
              have hx9_0 : wr.cell? ⟨go9, (x3_1 : Int).toNat * 7, none⟩ = some (.int .i64 ((rd_T67 x2_1 x3_1).f0)) := hcc9 0 _ rfl
              have hx9_1 : wr.cell? ⟨go9, (x3_1 : Int).toNat * 7 + 1, none⟩ = some (.int .i64 ((rd_T67 x2_1 x3_1).f1)) := hcc9 1 _ rfl
              have hx9_2 : wr.cell? ⟨go9, (x3_1 : Int).toNat * 7 + 2, none⟩ = some (.int .i64 ((rd_T67 x2_1 x3_1).f2)) := hcc9 2 _ rfl
              have hx9_3 : wr.cell? ⟨go9, (x3_1 : Int).toNat * 7 + 3, none⟩ = some (.int .i64 ((rd_T67 x2_1 x3_1).f3)) := hcc9 3 _ rfl
              have hx9_4 : wr.cell? ⟨go9, (x3_1 : Int).toNat * 7 + 4, none⟩ = some (.int .i64 ((rd_T67 x2_1 x3_1).f4)) := hcc9 4 _ rfl
              have hx9_5 : wr.cell? ⟨go9, (x3_1 : Int).toNat * 7 + 5, none⟩ = some (.int .i64 ((rd_T67 x2_1 x3_1).f5)) := hcc9 5 _ rfl
              have hx9_6 : wr.cell? ⟨go9, (x3_1 : Int).toNat * 7 + 6, none⟩ = some (.int .i64 ((rd_T67 x2_1 x3_1).f6)) := hcc9 6 _ rfl
              have hf9_0 : wr.frozen? ⟨go9, (x3_1 : Int).toNat * 7, none⟩ = false := hfr9 0
              have hf9_1 : wr.frozen? ⟨go9, (x3_1 : Int).toNat * 7 + 1, none⟩ = false := hfr9 1
              have hf9_2 : wr.frozen? ⟨go9, (x3_1 : Int).toNat * 7 + 2, none⟩ = false := hfr9 2
              have hf9_3 : wr.frozen? ⟨go9, (x3_1 : Int).toNat * 7 + 3, none⟩ = false := hfr9 3
              have hf9_4 : wr.frozen? ⟨go9, (x3_1 : Int).toNat * 7 + 4, none⟩ = false := hfr9 4
              have hf9_5 : wr.frozen? ⟨go9, (x3_1 : Int).toNat * 7 + 5, none⟩ = false := hfr9 5
              have hf9_6 : wr.frozen? ⟨go9, (x3_1 : Int).toNat * 7 + 6, none⟩ = false := hfr9 6
              clear hcl9 hcc9 hfr9 hM9
              replace p9 := eq_true p9
              replace q9 := eq_true q9
              have HX11 := Aside0.mk (show Kd.R k67 67 wr w.heap.size (fun k_ => k_ ≠ gb166) (.slice (some ⟨go9, 0, none⟩) x2_1.length co9) x2_1 from (by (with_reducible repeat (first | apply Kd.R_alloc | apply Kd.R_drewN | apply Kd.R_drew)); exact HO_2.out))
              obtain ⟨ce11, hcl11, hM11, hcc11, hfr11⟩ := Kd.R_elem HX11.out z67 (x3_1 : Int) (of_decide_eq_true (by first | (with_reducible assumption) | assumption)) (by have h_ : (x3_1 : Int) < ((x2_1.length : Int) : Int) := of_decide_eq_true (by first | (with_reducible assumption) | assumption); first | exact h_ | (have e_ := (Kd.R_reads' HO_2.out).1; omega) | simpa using h_)
              obtain rfl := k67_openM hM11
              have HP11 := Kd.R_seg HX11.out (x3_1 : Int) (of_decide_eq_true (by first | (with_reducible assumption) | assumption)) (by have h_ : (x3_1 : Int) < ((x2_1.length : Int) : Int) := of_decide_eq_true (by first | (with_reducible assumption) | assumption); first | exact h_ | (have e_ := (Kd.R_reads' HO_2.out).1; omega) | simpa using h_) (seg := [.int .i64 x167000_1, .int .i64 x167001_1, .int .i64 x167002_1, .int .i64 x167003_1, .int .i64 x167004_1, .int .i64 x167005_1, .int .i64 x167006_1]) (j := 0) hcl11 hcc11 (show 7 ≤ 7 from by decide) (x' := (⟨x167000_1, x167001_1, x167002_1, x167003_1, x167004_1, x167005_1, x167006_1⟩ : S67)) (k67_mkM _ _ _ (⟨x167000_1, x167001_1, x167002_1, x167003_1, x167004_1, x167005_1, x167006_1⟩ : S67) ) (fun _ hk => hk)
              have hx11_0 := hcc11 0 _ rfl
              (try simp only [show (k67).sz = 7 from rfl, Nat.mul_one, Nat.add_zero] at hx11_0)
              have hf11_0 := hfr11 0
              (try simp only [show (k67).sz = 7 from rfl, Nat.mul_one, Nat.add_zero] at hf11_0)
              have hx11_1 := hcc11 1 _ rfl
              (try simp only [show (k67).sz = 7 from rfl, Nat.mul_one, Nat.add_zero] at hx11_1)
              have hf11_1 := hfr11 1
              (try simp only [show (k67).sz = 7 from rfl, Nat.mul_one, Nat.add_zero] at hf11_1)
              have hx11_2 := hcc11 2 _ rfl
              (try simp only [show (k67).sz = 7 from rfl, Nat.mul_one, Nat.add_zero] at hx11_2)
              have hf11_2 := hfr11 2
              (try simp only [show (k67).sz = 7 from rfl, Nat.mul_one, Nat.add_zero] at hf11_2)
              have hx11_3 := hcc11 3 _ rfl
              (try simp only [show (k67).sz = 7 from rfl, Nat.mul_one, Nat.add_zero] at hx11_3)
              have hf11_3 := hfr11 3
              (try simp only [show (k67).sz = 7 from rfl, Nat.mul_one, Nat.add_zero] at hf11_3)
              have hx11_4 := hcc11 4 _ rfl
              (try simp only [show (k67).sz = 7 from rfl, Nat.mul_one, Nat.add_zero] at hx11_4)
              have hf11_4 := hfr11 4
              (try simp only [show (k67).sz = 7 from rfl, Nat.mul_one, Nat.add_zero] at hf11_4)
              have hx11_5 := hcc11 5 _ rfl
              (try simp only [show (k67).sz = 7 from rfl, Nat.mul_one, Nat.add_zero] at hx11_5)
              have hf11_5 := hfr11 5
              (try simp only [show (k67).sz = 7 from rfl, Nat.mul_one, Nat.add_zero] at hf11_5)
              have hx11_6 := hcc11 6 _ rfl
              (try simp only [show (k67).sz = 7 from rfl, Nat.mul_one, Nat.add_zero] at hx11_6)
              have hf11_6 := hfr11 6
              (try simp only [show (k67).sz = 7 from rfl, Nat.mul_one, Nat.add_zero] at hf11_6)
              clear hcl11 hcc11 hfr11 hM11
              go_wp2_with (first | ((with_reducible refine gate_store (t := 67) (p := 15) rfl ?_); refine store_event (t := 67) (p := 15) (v := ?vo_w12) (w1 := (((((((wr.setCell ⟨go9, (x3_1 : Int).toNat * 7, none⟩ (.int .i64 x167000_1)).setCell ⟨go9, (x3_1 : Int).toNat * 7 + 1, none⟩ (.int .i64 x167001_1)).setCell ⟨go9, (x3_1 : Int).toNat * 7 + 2, none⟩ (.int .i64 x167002_1)).setCell ⟨go9, (x3_1 : Int).toNat * 7 + 3, none⟩ (.int .i64 x167003_1)).setCell ⟨go9, (x3_1 : Int).toNat * 7 + 4, none⟩ (.int .i64 x167004_1)).setCell ⟨go9, (x3_1 : Int).toNat * 7 + 5, none⟩ (.int .i64 x167005_1)).setCell ⟨go9, (x3_1 : Int).toNat * 7 + 6, none⟩ (.int .i64 x167006_1))) ?hg ?ho ?hn ?hr ?_; (case ho => rfl); (case hg => rfl); (case hn => rfl); (case hr => first | (go_simp; done) | (go_simp; rfl)); intro w12 hw; have hg : wr.grownBy w12 (some go9) := (by rw [hw]; exact HP11.2); have hp_ : Kd.R k67 67 w12 w.heap.size (fun k_ => k_ ≠ gb166) (.slice (some ⟨go9, 0, none⟩) x2_1.length co9) y170 := (by rw [hw, Ny170.out]; exact HP11.1); clear HP11; have n0_ := Aside0.mk (hp_); have n1_ := Aside0.mk (blk_grown (g := gb166) (o := .cells #[.int .i64 x167000_1, .int .i64 x167001_1, .int .i64 x167002_1, .int .i64 x167003_1, .int .i64 x167004_1, .int .i64 x167005_1, .int .i64 x167006_1] 67 (0, 0)) (by (with_reducible repeat (first | refine blk_drewN ?_ _ | refine blk_drew ?_ | refine blk_alloc ?_ _)); exact BK166.out) hg (Kd.R_away HO_2.out (fun _ hk => hk))); have n2_ := Aside0.mk ((by rw [hw]; exact below_set (below_set (below_set (below_set (below_set (below_set (below_set (HB.out) GB9.out) GB9.out) GB9.out) GB9.out) GB9.out) GB9.out) GB9.out : Below w.heap.size w w12)); clear HO_2; clear BK166; clear HB; have HO_2 := n0_; have BK166 := n1_; have HB := n2_; clear n0_ n1_ n2_; clear hg hw hp_))
              go_roundg k1
              case measure => have := HK1.out; omega
              case rel => exact ⟨(y170), (wrap64 (x3_1 + 1)), (x167000_1), (x167001_1), (x167002_1), (x167003_1), (x167004_1), (x167005_1), (x167006_1), (by first | rfl | (simp; done) | (simp [*]; done)), H', ⟨by have := HK1.out; omega⟩, ⟨by (with_reducible repeat (first | apply Kd.R_alloc | apply Kd.R_drewN | apply Kd.R_drew)); exact HO_2.out⟩, ⟨by (with_reducible repeat (first | refine blk_drewN ?_ _ | refine blk_drew ?_ | refine blk_alloc ?_ _)); exact BK166.out⟩, ⟨by repeat (first | (with_reducible first | exact HB.out | apply below_alloc | apply pw_below_drewN | apply below_drew1 | refine below_set ?_ GE166.out) | exact HB.out)⟩⟩
            · rw [if_neg c8] at H
              exact absurd H (by simp)
          · rw [if_neg c7] at H
            exact absurd H (by simp)
        · rw [if_neg c6] at H
          have c6b0 : decide (x3_1 < 65) = false := decide_eq_false c6
          clear c6
          by_cases c13 : 64 ≤ (x2_1.length : Int)
          · rw [if_pos c13] at H
            have c13b0 := eq_true c13
            have c13b1 : decide (64 ≤ (x2_1.length : Int)) = true := decide_eq_true c13
            clear c13
            obtain ⟨y171, hy171⟩ : ∃ y_ : List (S67), y_ = (x2_1.take 64) := ⟨_, rfl⟩
            replace H : ((some (([(⟨x2_1, (⟨3, 0, 0, 0⟩ : S72)⟩ : S74)] : List (S74)) : List (S74))).bind fun y180 => ((machine_Instr.f k1 x167000_1 x167001_1 x167002_1 x167003_1 x167004_1 x167005_1 x167006_1 1 1).bind fun t184 => (if t184 = 0 then ((machine_Instr.f k1 18 0 0 0 0 3 1 9 9).bind fun t185 => (if t185 = 10 then ((machine_Instr.f k1 2 0 0 0 0 0 0 9 9).bind fun t186 => (if t186 = 8 then ((machine_Check.f k1 0 1 1 (([(⟨y171, (⟨3, 0, 0, 0⟩ : S72)⟩ : S74)] : List (S74)))).bind fun t187 => (if t187 = 0 then ((machine_Check.f k1 0 1 1 y180).bind fun t188 => (if t188 = 15 then ((machine_Moves.f k1 x2_1).bind fun t189 => (if t189 = 65 then ((machine_Code.f k1 0 1 1 y180).bind fun t190 => (if t190 = 65 then ((machine_Check.f k1 0 0 0 ([] : List (S74))).bind fun t191 => (some (t191 == 14))) else (none))) else (none))) else (none))) else (none))) else (none))) else (none))) else (none)))) = some r := by first | (rw [hy171]; with_reducible exact H) | (have H2_ := (Option.bind_some _ _).symm.trans H; rw [hy171]; with_reducible exact H2_) | (have H2_ := (Option.bind_some _ _).symm.trans H; with_reducible exact H2_) | with_reducible exact H | (rw [hy171]; exact H) | exact H
            have Ny171 := Aside0.mk hy171
            clear hy171
            obtain ⟨y176, hy176⟩ : ∃ y_ : List (S74), y_ = (([(⟨y171, (⟨3, 0, 0, 0⟩ : S72)⟩ : S74)] : List (S74))) := ⟨_, rfl⟩
            replace H : ((some (([(⟨x2_1, (⟨3, 0, 0, 0⟩ : S72)⟩ : S74)] : List (S74)) : List (S74))).bind fun y180 => ((machine_Instr.f k1 x167000_1 x167001_1 x167002_1 x167003_1 x167004_1 x167005_1 x167006_1 1 1).bind fun t184 => (if t184 = 0 then ((machine_Instr.f k1 18 0 0 0 0 3 1 9 9).bind fun t185 => (if t185 = 10 then ((machine_Instr.f k1 2 0 0 0 0 0 0 9 9).bind fun t186 => (if t186 = 8 then ((machine_Check.f k1 0 1 1 y176).bind fun t187 => (if t187 = 0 then ((machine_Check.f k1 0 1 1 y180).bind fun t188 => (if t188 = 15 then ((machine_Moves.f k1 x2_1).bind fun t189 => (if t189 = 65 then ((machine_Code.f k1 0 1 1 y180).bind fun t190 => (if t190 = 65 then ((machine_Check.f k1 0 0 0 ([] : List (S74))).bind fun t191 => (some (t191 == 14))) else (none))) else (none))) else (none))) else (none))) else (none))) else (none))) else (none)))) = some r := by first | (rw [hy176]; with_reducible exact H) | (have H2_ := (Option.bind_some _ _).symm.trans H; rw [hy176]; with_reducible exact H2_) | (have H2_ := (Option.bind_some _ _).symm.trans H; with_reducible exact H2_) | with_reducible exact H | (rw [hy176]; exact H) | exact H
            have Ny176 := Aside0.mk hy176
            clear hy176
            obtain ⟨y180, hy180⟩ : ∃ y_ : List (S74), y_ = (([(⟨x2_1, (⟨3, 0, 0, 0⟩ : S72)⟩ : S74)] : List (S74))) := ⟨_, rfl⟩
            replace H : ((machine_Instr.f k1 x167000_1 x167001_1 x167002_1 x167003_1 x167004_1 x167005_1 x167006_1 1 1).bind fun t184 => (if t184 = 0 then ((machine_Instr.f k1 18 0 0 0 0 3 1 9 9).bind fun t185 => (if t185 = 10 then ((machine_Instr.f k1 2 0 0 0 0 0 0 9 9).bind fun t186 => (if t186 = 8 then ((machine_Check.f k1 0 1 1 y176).bind fun t187 => (if t187 = 0 then ((machine_Check.f k1 0 1 1 y180).bind fun t188 => (if t188 = 15 then ((machine_Moves.f k1 x2_1).bind fun t189 => (if t189 = 65 then ((machine_Code.f k1 0 1 1 y180).bind fun t190 => (if t190 = 65 then ((machine_Check.f k1 0 0 0 ([] : List (S74))).bind fun t191 => (some (t191 == 14))) else (none))) else (none))) else (none))) else (none))) else (none))) else (none))) else (none))) = some r := by first | (rw [hy180]; with_reducible exact H) | (have H2_ := (Option.bind_some _ _).symm.trans H; rw [hy180]; with_reducible exact H2_) | (have H2_ := (Option.bind_some _ _).symm.trans H; with_reducible exact H2_) | with_reducible exact H | (rw [hy180]; exact H) | exact H
            have Ny180 := Aside0.mk hy180
            clear hy180
            replace H := Option.bind_eq_some_iff.mp H
            obtain ⟨t184, A140, H⟩ := H
            replace H : (if t184 = 0 then ((machine_Instr.f k1 18 0 0 0 0 3 1 9 9).bind fun t185 => (if t185 = 10 then ((machine_Instr.f k1 2 0 0 0 0 0 0 9 9).bind fun t186 => (if t186 = 8 then ((machine_Check.f k1 0 1 1 y176).bind fun t187 => (if t187 = 0 then ((machine_Check.f k1 0 1 1 y180).bind fun t188 => (if t188 = 15 then ((machine_Moves.f k1 x2_1).bind fun t189 => (if t189 = 65 then ((machine_Code.f k1 0 1 1 y180).bind fun t190 => (if t190 = 65 then ((machine_Check.f k1 0 0 0 ([] : List (S74))).bind fun t191 => (some (t191 == 14))) else (none))) else (none))) else (none))) else (none))) else (none))) else (none))) else (none)) = some r := H
            have A14 := Aside0.mk A140
            clear A140
            by_cases c15 : t184 = 0
            · rw [if_pos c15] at H
              have c15b0 : (t184 == 0) = true := beq_iff_eq.mpr c15
              have c15b1 : (t184 != 0) = false := bne_eq_false_iff_eq.mpr c15
              clear c15
              replace H := Option.bind_eq_some_iff.mp H
              obtain ⟨t185, A160, H⟩ := H
              replace H : (if t185 = 10 then ((machine_Instr.f k1 2 0 0 0 0 0 0 9 9).bind fun t186 => (if t186 = 8 then ((machine_Check.f k1 0 1 1 y176).bind fun t187 => (if t187 = 0 then ((machine_Check.f k1 0 1 1 y180).bind fun t188 => (if t188 = 15 then ((machine_Moves.f k1 x2_1).bind fun t189 => (if t189 = 65 then ((machine_Code.f k1 0 1 1 y180).bind fun t190 => (if t190 = 65 then ((machine_Check.f k1 0 0 0 ([] : List (S74))).bind fun t191 => (some (t191 == 14))) else (none))) else (none))) else (none))) else (none))) else (none))) else (none)) = some r := H
              have A16 := Aside0.mk A160
              clear A160
              by_cases c17 : t185 = 10
              · rw [if_pos c17] at H
                have c17b0 : (t185 == 10) = true := beq_iff_eq.mpr c17
                have c17b1 : (t185 != 10) = false := bne_eq_false_iff_eq.mpr c17
                clear c17
                replace H := Option.bind_eq_some_iff.mp H
                obtain ⟨t186, A180, H⟩ := H
                replace H : (if t186 = 8 then ((machine_Check.f k1 0 1 1 y176).bind fun t187 => (if t187 = 0 then ((machine_Check.f k1 0 1 1 y180).bind fun t188 => (if t188 = 15 then ((machine_Moves.f k1 x2_1).bind fun t189 => (if t189 = 65 then ((machine_Code.f k1 0 1 1 y180).bind fun t190 => (if t190 = 65 then ((machine_Check.f k1 0 0 0 ([] : List (S74))).bind fun t191 => (some (t191 == 14))) else (none))) else (none))) else (none))) else (none))) else (none)) = some r := H
                have A18 := Aside0.mk A180
                clear A180
                by_cases c19 : t186 = 8
                · rw [if_pos c19] at H
                  have c19b0 : (t186 == 8) = true := beq_iff_eq.mpr c19
                  have c19b1 : (t186 != 8) = false := bne_eq_false_iff_eq.mpr c19
                  clear c19
                  replace H := Option.bind_eq_some_iff.mp H
                  obtain ⟨t187, A200, H⟩ := H
                  replace H : (if t187 = 0 then ((machine_Check.f k1 0 1 1 y180).bind fun t188 => (if t188 = 15 then ((machine_Moves.f k1 x2_1).bind fun t189 => (if t189 = 65 then ((machine_Code.f k1 0 1 1 y180).bind fun t190 => (if t190 = 65 then ((machine_Check.f k1 0 0 0 ([] : List (S74))).bind fun t191 => (some (t191 == 14))) else (none))) else (none))) else (none))) else (none)) = some r := H
                  have A20 := Aside0.mk A200
                  clear A200
                  by_cases c21 : t187 = 0
                  · rw [if_pos c21] at H
                    have c21b0 : (t187 == 0) = true := beq_iff_eq.mpr c21
                    have c21b1 : (t187 != 0) = false := bne_eq_false_iff_eq.mpr c21
                    clear c21
                    replace H := Option.bind_eq_some_iff.mp H
                    obtain ⟨t188, A220, H⟩ := H
                    replace H : (if t188 = 15 then ((machine_Moves.f k1 x2_1).bind fun t189 => (if t189 = 65 then ((machine_Code.f k1 0 1 1 y180).bind fun t190 => (if t190 = 65 then ((machine_Check.f k1 0 0 0 ([] : List (S74))).bind fun t191 => (some (t191 == 14))) else (none))) else (none))) else (none)) = some r := H
                    have A22 := Aside0.mk A220
                    clear A220
                    by_cases c23 : t188 = 15
                    · rw [if_pos c23] at H
                      have c23b0 : (t188 == 15) = true := beq_iff_eq.mpr c23
                      have c23b1 : (t188 != 15) = false := bne_eq_false_iff_eq.mpr c23
                      clear c23
                      replace H := Option.bind_eq_some_iff.mp H
                      obtain ⟨t189, A240, H⟩ := H
                      replace H : (if t189 = 65 then ((machine_Code.f k1 0 1 1 y180).bind fun t190 => (if t190 = 65 then ((machine_Check.f k1 0 0 0 ([] : List (S74))).bind fun t191 => (some (t191 == 14))) else (none))) else (none)) = some r := H
                      have A24 := Aside0.mk A240
                      clear A240
                      by_cases c25 : t189 = 65
                      · rw [if_pos c25] at H
                        have c25b0 : (t189 == 65) = true := beq_iff_eq.mpr c25
                        have c25b1 : (t189 != 65) = false := bne_eq_false_iff_eq.mpr c25
                        clear c25
                        replace H := Option.bind_eq_some_iff.mp H
                        obtain ⟨t190, A260, H⟩ := H
                        replace H : (if t190 = 65 then ((machine_Check.f k1 0 0 0 ([] : List (S74))).bind fun t191 => (some (t191 == 14))) else (none)) = some r := H
                        have A26 := Aside0.mk A260
                        clear A260
                        by_cases c27 : t190 = 65
                        · rw [if_pos c27] at H
                          have c27b0 : (t190 == 65) = true := beq_iff_eq.mpr c27
                          have c27b1 : (t190 != 65) = false := bne_eq_false_iff_eq.mpr c27
                          clear c27
                          replace H := Option.bind_eq_some_iff.mp H
                          obtain ⟨t191, A280, H⟩ := H
                          replace H : (some (t191 == 14)) = some r := H
                          have A28 := Aside0.mk A280
                          clear A280
                          obtain rfl := Option.some.inj H
                          obtain ⟨Ao30, co30, eo30⟩ := Kd.R_slice HO_2.out
                          subst eo30
                          have q29 : (64 : Int) ≤ ((x2_1.length : Int) : Int) := of_decide_eq_true (by first | (with_reducible assumption) | assumption)
                          obtain ⟨i029, hi029, _, hsz29, _⟩ := info_parts info67
                          have hroom29 : x2_1.length ≤ co30 := (Kd.R_reads' HO_2.out).2.1
                          have hC29 : Kd.F k67 _ _ Ao30 x2_1.length x2_1 := (Kd.V_at (base := w.heap.size) (Kd.R_V HO_2.out)).2.2
                          have hcut29 := cut_to (P := Try.prog) 70 67 .i64 Try.underlying70 hi029 Ao30 x2_1.length co30 64 (by omega) q29 hroom29
                          have hr29 := Kd.F_take (m := 64) hC29 (by omega)
                          have hy29 : y171.length = (64 : Int).toNat := (by rw [Ny171.out, List.length_take]; omega)
                          rw [← Ny171.out] at hr29
                          rw [← hy29] at hcut29
                          have HO175 := Aside0.mk (show Kd.V k67 67 _ w.heap.size _ (.slice Ao30 y171.length co30) y171 from Kd.V_mk (by omega) hr29)
                          have HC175 := Aside0.mk (show y171.length ≤ co30 from by omega)
                          clear hr29 hC29 hroom29 hi029 hsz29
                          have KY29 := Aside0.mk hy29
                          clear hy29
                          replace q29 := eq_true q29
                          go_wp2_with (first | ((with_reducible refine gate_dst (N := 20) rfl ?_); refine Kd.N_lit k74 _ 74 ?hg (N' := 20) ?hd (xs := ([(⟨y171, (⟨3, 0, 0, 0⟩ : S72)⟩ : S74)] : List (S74))) (inner := [.slice Ao30 y171.length co30, .int .i64 3, .int .i64 0, .int .i64 0, .int .i64 0]) (ok := (fun k_ => k_ ≠ gb166)) (okp := (fun k_ => k_ ≠ gb166)) ?hr ?hp (fun _ hk => hk) ((show ∀ k_, wr.heap.size ≤ k_ → (fun k_ => k_ ≠ gb166) k_ from fun k_ hk => Kd.freshB (g := gb166) (o := .cells #[.int .i64 x167000_1, .int .i64 x167001_1, .int .i64 x167002_1, .int .i64 x167003_1, .int .i64 x167004_1, .int .i64 x167005_1, .int .i64 x167006_1] 67 (0, 0)) (by (with_reducible repeat (first | refine blk_drewN ?_ _ | refine blk_drew ?_ | refine blk_alloc ?_ _)); exact BK166.out) k_ hk) _ (Nat.le_refl _)) (Below.refl _ _) (Nat.le_refl _) (by simp) ?_; (case hd => rfl); (case hg => rfl); (case hr => first | (go_simp; done) | (go_simp; rfl)); (case hp => exact (Reps.c5 (show Kd.FK k74 _ _ (⟨y171, (⟨3, 0, 0, 0⟩ : S72)⟩ : S74) [.slice Ao30 y171.length co30, .int .i64 3, .int .i64 0, .int .i64 0, .int .i64 0] from (k74_mkF _ _ (⟨y171, (⟨3, 0, 0, 0⟩ : S72)⟩ : S74) (Kd.V_reads' (Kd.V_mono (ok' := (fun k_ => k_ ≠ gb166)) (HO175.out) (fun k_ hk => hk))).2.1 (Kd.V_F (Kd.V_mono (ok' := (fun k_ => k_ ≠ gb166)) (HO175.out) (fun k_ hk => hk))))) (Reps.none _ _))); intro v177 w31 ho32 hb hg_ hnew_; clear hg_ hnew_; (first | rw [← Ny176.out] at ho32 | (simp only [Int.reduceToNat] at ho32; rw [← Ny176.out] at ho32)); have n0_ := Aside0.mk (Kd.R_below (by (with_reducible repeat (first | apply Kd.R_alloc | apply Kd.R_drewN | apply Kd.R_drew)); exact HO_2.out) hb); have n1_ := Aside0.mk (Kd.V_elder' (by (with_reducible repeat (first | apply Kd.V_alloc | apply Kd.V_drewN | apply Kd.V_drew)); exact HO175.out) (Kd.N_base ho32) hb); have n2_ := Aside0.mk (Kd.N_lower ho32 (below_size (by repeat (first | (with_reducible first | exact HB.out | apply below_alloc | apply pw_below_drewN | apply below_drew1 | refine below_set ?_ GE166.out) | exact HB.out)))); have n3_ := Aside0.mk (blk_below (g := gb166) (o := .cells #[.int .i64 x167000_1, .int .i64 x167001_1, .int .i64 x167002_1, .int .i64 x167003_1, .int .i64 x167004_1, .int .i64 x167005_1, .int .i64 x167006_1] 67 (0, 0)) (by (with_reducible repeat (first | refine blk_drewN ?_ _ | refine blk_drew ?_ | refine blk_alloc ?_ _)); exact BK166.out) hb); have n4_ := Aside0.mk (below_step (by repeat (first | (with_reducible first | exact HB.out | apply below_alloc | apply pw_below_drewN | apply below_drew1 | refine below_set ?_ GE166.out) | exact HB.out)) hb); clear HO_2; clear HO175; clear BK166; clear HB; have HO_2 := n0_; have HO175 := n1_; have HO178 := n2_; have BK166 := n3_; have HB := n4_; clear n0_ n1_ n2_ n3_ n4_; clear hb ho32; obtain ⟨Ao33, co33, eo33⟩ := Kd.N_slice HO178.out; subst eo33) | ((with_reducible refine gate_dst (N := 4) rfl ?_); refine box_event ?hg (N := 4) ?hd (cs := #[.int .i64 0, .int .i64 0, .int .i64 0, .slice none 0 0]) (t := 64) ?hr ?_; (case hd => rfl); (case hg => rfl); (case hr => first | (go_simp; done) | (go_simp; rfl)); intro gb179 hg w34 hbox hb; have n0_ := Aside0.mk (Kd.R_below (by (with_reducible repeat (first | apply Kd.R_alloc | apply Kd.R_drewN | apply Kd.R_drew)); exact HO_2.out) hb); have n1_ := Aside0.mk (Kd.V_below (Kd.V_elderB (by (with_reducible repeat (first | apply Kd.V_alloc | apply Kd.V_drewN | apply Kd.V_drew)); exact HO175.out) gb179 (Nat.le_of_eq hg.symm)) hb); have n2_ := Aside0.mk (Kd.N_below (Kd.N_elderB (by (with_reducible repeat (first | apply Kd.N_alloc | apply Kd.N_drewN | apply Kd.N_drew)); exact HO178.out) gb179 (Nat.le_of_eq hg.symm)) hb); have n3_ := Aside0.mk (blk_below (g := gb166) (o := .cells #[.int .i64 x167000_1, .int .i64 x167001_1, .int .i64 x167002_1, .int .i64 x167003_1, .int .i64 x167004_1, .int .i64 x167005_1, .int .i64 x167006_1] 67 (0, 0)) (by (with_reducible repeat (first | refine blk_drewN ?_ _ | refine blk_drew ?_ | refine blk_alloc ?_ _)); exact BK166.out) hb); have n4_ := Aside0.mk (below_step (by repeat (first | (with_reducible first | exact HB.out | apply below_alloc | apply pw_below_drewN | apply below_drew1 | refine below_set ?_ GE166.out) | exact HB.out)) hb); have n5_ := Aside0.mk (hbox); have n6_ := Aside0.mk ((by rw [hg]; exact (below_size (by repeat (first | (with_reducible first | exact HB.out | apply below_alloc | apply pw_below_drewN | apply below_drew1 | refine below_set ?_ GE166.out) | exact HB.out))) : w.heap.size ≤ gb179)); have n7_ := Aside0.mk ((by rw [hg]; exact (below_size (by repeat (first | (with_reducible first | exact HB.out | apply below_alloc | apply pw_below_drewN | apply below_drew1 | refine below_set ?_ GE166.out) | exact HB.out))) : w.heap.size ≤ gb179)); have n8_ := Aside0.mk ((by rw [hg]; exact Nat.ne_of_lt (blk_lt (g := gb166) (o := .cells #[.int .i64 x167000_1, .int .i64 x167001_1, .int .i64 x167002_1, .int .i64 x167003_1, .int .i64 x167004_1, .int .i64 x167005_1, .int .i64 x167006_1] 67 (0, 0)) (by (with_reducible repeat (first | refine blk_drewN ?_ _ | refine blk_drew ?_ | refine blk_alloc ?_ _)); exact BK166.out)) : gb166 ≠ gb179)); have n9_ := Aside0.mk ((by rw [hg]; exact Nat.ne_of_gt (blk_lt (g := gb166) (o := .cells #[.int .i64 x167000_1, .int .i64 x167001_1, .int .i64 x167002_1, .int .i64 x167003_1, .int .i64 x167004_1, .int .i64 x167005_1, .int .i64 x167006_1] 67 (0, 0)) (by (with_reducible repeat (first | refine blk_drewN ?_ _ | refine blk_drew ?_ | refine blk_alloc ?_ _)); exact BK166.out)) : gb179 ≠ gb166)); clear HO_2; clear HO175; clear HO178; clear BK166; clear HB; have HO_2 := n0_; have HO175 := n1_; have HO178 := n2_; have BK166 := n3_; have HB := n4_; have BK179 := n5_; have GW179 := n6_; have GE179 := n7_; have NB166_179 := n8_; have NB179_166 := n9_; clear n0_ n1_ n2_ n3_ n4_ n5_ n6_ n7_ n8_ n9_; clear hb hbox hg; have hnb35 := NB179_166.out; have hnc35 := NB166_179.out; have hcz36_0 : w34.cell? ⟨gb179, 0, none⟩ = some (.int .i64 0) := (blk_cell BK179.out 0).trans rfl; have hcz36_1 : w34.cell? ⟨gb179, 1, none⟩ = some (.int .i64 0) := (blk_cell BK179.out 1).trans rfl; have hcz36_2 : w34.cell? ⟨gb179, 2, none⟩ = some (.int .i64 0) := (blk_cell BK179.out 2).trans rfl; have hcz36_3 : w34.cell? ⟨gb179, 3, none⟩ = some (.slice none 0 0) := (blk_cell BK179.out 3).trans rfl; have hfz36_0 := blk_frozen BK179.out 0; have hfz36_1 := blk_frozen BK179.out 1; have hfz36_2 := blk_frozen BK179.out 2; have hfz36_3 := blk_frozen BK179.out 3) | ((with_reducible refine gate_store (t := 64) (p := 4) rfl ?_); refine store_event (t := 64) (p := 4) (v := ?vo_w37) (w1 := ((((w34.setCell ⟨gb179, 0, none⟩ (.int .i64 0)).setCell ⟨gb179, 1, none⟩ (.int .i64 1)).setCell ⟨gb179, 2, none⟩ (.int .i64 1)).setCell ⟨gb179, 3, none⟩ (.slice Ao33 y176.length co33))) ?hg ?ho ?hn ?hr ?_; (case ho => rfl); (case hg => rfl); (case hn => rfl); (case hr => first | (go_simp; done) | (go_simp; rfl)); intro w37 hw; have n0_ : Aside0 (Kd.R k67 67 w37 w.heap.size (fun k_ => k_ ≠ gb166) (.slice Ao30 x2_1.length co30) x2_1) := ⟨(by rw [hw]; exact (by (with_reducible repeat (first | apply Kd.R_alloc | apply Kd.R_drewN | apply Kd.R_drew)); exact Kd.R_mono (Kd.R_far (p := ⟨gb179, 3, none⟩) (Kd.R_far (p := ⟨gb179, 2, none⟩) (Kd.R_far (p := ⟨gb179, 1, none⟩) (Kd.R_far (p := ⟨gb179, 0, none⟩) (Kd.R_types HO_2.out BK179.out (by decide)) (fun _ hk => hk.2) (.int .i64 0)) (fun _ hk => hk.2) (.int .i64 1)) (fun _ hk => hk.2) (.int .i64 1)) (fun _ hk => hk.2) (.slice Ao33 y176.length co33)) (fun _ hk => hk.1)))⟩; have n1_ : Aside0 (Kd.V k67 67 w37 w.heap.size (fun k_ => some k_ ≠ (.slice Ao33 y176.length co33 : Value).ownBlock ∧ k_ ≠ gb166 ∧ k_ ≠ gb179) (.slice Ao30 y171.length co30) y171) := ⟨(by rw [hw]; exact (by (with_reducible repeat (first | apply Kd.V_alloc | apply Kd.V_drewN | apply Kd.V_drew)); exact Kd.V_mono (Kd.V_far (p := ⟨gb179, 3, none⟩) (Kd.V_far (p := ⟨gb179, 2, none⟩) (Kd.V_far (p := ⟨gb179, 1, none⟩) (Kd.V_far (p := ⟨gb179, 0, none⟩) (Kd.V_mono HO175.out (fun k_ hk => (⟨hk, hk.2⟩ : _ ∧ k_ ≠ gb179))) (fun _ hk => hk.2) (.int .i64 0)) (fun _ hk => hk.2) (.int .i64 1)) (fun _ hk => hk.2) (.int .i64 1)) (fun _ hk => hk.2) (.slice Ao33 y176.length co33)) (fun _ hk => ⟨hk.1.1.2, ⟨hk.1.1.1, hk.1.2⟩⟩)))⟩; have n2_ : Aside0 (Kd.N k74 74 w37 w.heap.size (fun k_ => k_ ≠ gb166 ∧ k_ ≠ gb179) (.slice Ao33 y176.length co33) y176) := ⟨(by rw [hw]; exact (by (with_reducible repeat (first | apply Kd.N_alloc | apply Kd.N_drewN | apply Kd.N_drew)); exact Kd.N_mono (Kd.N_far (p := ⟨gb179, 3, none⟩) (Kd.N_far (p := ⟨gb179, 2, none⟩) (Kd.N_far (p := ⟨gb179, 1, none⟩) (Kd.N_far (p := ⟨gb179, 0, none⟩) (Kd.N_mono HO178.out (fun k_ hk => (⟨hk, hk.2⟩ : _ ∧ k_ ≠ gb179))) (fun _ hk => hk.2) (.int .i64 0)) (fun _ hk => hk.2) (.int .i64 1)) (fun _ hk => hk.2) (.int .i64 1)) (fun _ hk => hk.2) (.slice Ao33 y176.length co33)) (fun _ hk => ⟨hk.1.1, hk.1.2⟩)))⟩; have n3_ : Aside0 (w37.heap[gb166]? = some (.cells #[.int .i64 x167000_1, .int .i64 x167001_1, .int .i64 x167002_1, .int .i64 x167003_1, .int .i64 x167004_1, .int .i64 x167005_1, .int .i64 x167006_1] 67 (0, 0))) := ⟨(by rw [hw]; exact (by (with_reducible repeat (first | refine blk_drewN ?_ _ | refine blk_drew ?_ | refine blk_alloc ?_ _)); refine blk_far ?_ NB166_179.out _; (with_reducible repeat (first | refine blk_drewN ?_ _ | refine blk_drew ?_ | refine blk_alloc ?_ _)); refine blk_far ?_ NB166_179.out _; (with_reducible repeat (first | refine blk_drewN ?_ _ | refine blk_drew ?_ | refine blk_alloc ?_ _)); refine blk_far ?_ NB166_179.out _; (with_reducible repeat (first | refine blk_drewN ?_ _ | refine blk_drew ?_ | refine blk_alloc ?_ _)); refine blk_far ?_ NB166_179.out _; (with_reducible repeat (first | refine blk_drewN ?_ _ | refine blk_drew ?_ | refine blk_alloc ?_ _)); exact BK166.out))⟩; have n4_ : Aside0 (w37.heap[gb179]? = some (.cells #[.int .i64 0, .int .i64 1, .int .i64 1, .slice Ao33 y176.length co33] 64 (0, 0))) := ⟨(by rw [hw]; exact (by (with_reducible repeat (first | refine blk_drewN ?_ _ | refine blk_drew ?_ | refine blk_alloc ?_ _)); refine blk_put (cs := #[.int .i64 0, .int .i64 1, .int .i64 1, .slice none 0 0]) ?_ 3 _ rfl; (with_reducible repeat (first | refine blk_drewN ?_ _ | refine blk_drew ?_ | refine blk_alloc ?_ _)); refine blk_put (cs := #[.int .i64 0, .int .i64 1, .int .i64 0, .slice none 0 0]) ?_ 2 _ rfl; (with_reducible repeat (first | refine blk_drewN ?_ _ | refine blk_drew ?_ | refine blk_alloc ?_ _)); refine blk_put (cs := #[.int .i64 0, .int .i64 0, .int .i64 0, .slice none 0 0]) ?_ 1 _ rfl; (with_reducible repeat (first | refine blk_drewN ?_ _ | refine blk_drew ?_ | refine blk_alloc ?_ _)); refine blk_put (cs := #[.int .i64 0, .int .i64 0, .int .i64 0, .slice none 0 0]) ?_ 0 _ rfl; (with_reducible repeat (first | refine blk_drewN ?_ _ | refine blk_drew ?_ | refine blk_alloc ?_ _)); exact BK179.out))⟩; have n5_ : Aside0 (Below w.heap.size w w37) := ⟨(by rw [hw]; exact (by repeat (first | (with_reducible first | exact HB.out | apply below_alloc | apply pw_below_drewN | apply below_drew1 | refine below_set ?_ GE166.out | refine below_set ?_ GE179.out) | exact HB.out)))⟩; clear hw; clear HO_2; clear HO175; clear HO178; clear BK166; clear BK179; clear HB; have HO_2 := n0_; have HO175 := n1_; have HO178 := n2_; have BK166 := n3_; have BK179 := n4_; have HB := n5_; clear n0_ n1_ n2_ n3_ n4_ n5_) | ((with_reducible refine gate_dst (N := 25) rfl ?_); refine Kd.N_lit k74 _ 74 ?hg (N' := 25) ?hd (xs := ([(⟨x2_1, (⟨3, 0, 0, 0⟩ : S72)⟩ : S74)] : List (S74))) (inner := [.slice Ao30 x2_1.length co30, .int .i64 3, .int .i64 0, .int .i64 0, .int .i64 0]) (ok := (fun k_ => some k_ ≠ (.slice Ao33 y176.length co33 : Value).ownBlock ∧ k_ ≠ gb166 ∧ k_ ≠ gb179)) (okp := (fun k_ => some k_ ≠ (.slice Ao33 y176.length co33 : Value).ownBlock ∧ k_ ≠ gb166 ∧ k_ ≠ gb179)) ?hr ?hp (fun _ hk => hk) ((show ∀ k_, w37.heap.size ≤ k_ → (fun k_ => some k_ ≠ (.slice Ao33 y176.length co33 : Value).ownBlock ∧ k_ ≠ gb166 ∧ k_ ≠ gb179) k_ from fun k_ hk => ⟨Kd.fresh' (Kd.N_lt (by (with_reducible repeat (first | apply Kd.N_alloc | apply Kd.N_drewN | apply Kd.N_drew)); exact HO178.out)) k_ hk, Kd.freshB (g := gb166) (o := .cells #[.int .i64 x167000_1, .int .i64 x167001_1, .int .i64 x167002_1, .int .i64 x167003_1, .int .i64 x167004_1, .int .i64 x167005_1, .int .i64 x167006_1] 67 (0, 0)) (by (with_reducible repeat (first | refine blk_drewN ?_ _ | refine blk_drew ?_ | refine blk_alloc ?_ _)); exact BK166.out) k_ hk, Kd.freshB (g := gb179) (o := .cells #[.int .i64 0, .int .i64 1, .int .i64 1, .slice Ao33 y176.length co33] 64 (0, 0)) (by (with_reducible repeat (first | refine blk_drewN ?_ _ | refine blk_drew ?_ | refine blk_alloc ?_ _)); exact BK179.out) k_ hk⟩) _ (Nat.le_refl _)) (Below.refl _ _) (Nat.le_refl _) (by simp) ?_; (case hd => rfl); (case hg => rfl); (case hr => first | (go_simp; done) | (go_simp; rfl)); (case hp => exact (Reps.c5 (show Kd.FK k74 _ _ (⟨x2_1, (⟨3, 0, 0, 0⟩ : S72)⟩ : S74) [.slice Ao30 x2_1.length co30, .int .i64 3, .int .i64 0, .int .i64 0, .int .i64 0] from (k74_mkF _ _ (⟨x2_1, (⟨3, 0, 0, 0⟩ : S72)⟩ : S74) (Kd.R_reads' (Kd.R_mono (ok' := (fun k_ => some k_ ≠ (.slice Ao33 y176.length co33 : Value).ownBlock ∧ k_ ≠ gb166 ∧ k_ ≠ gb179)) (Kd.R_types (Kd.R_apart' (HO_2.out) (Kd.N_typed HO178.out) (by decide)) BK179.out (by decide)) (fun k_ hk => ⟨hk.1.2, ⟨hk.1.1, hk.2⟩⟩))).2.1 (Kd.R_F (Kd.R_mono (ok' := (fun k_ => some k_ ≠ (.slice Ao33 y176.length co33 : Value).ownBlock ∧ k_ ≠ gb166 ∧ k_ ≠ gb179)) (Kd.R_types (Kd.R_apart' (HO_2.out) (Kd.N_typed HO178.out) (by decide)) BK179.out (by decide)) (fun k_ hk => ⟨hk.1.2, ⟨hk.1.1, hk.2⟩⟩))))) (Reps.none _ _))); intro v181 w38 ho39 hb hg_ hnew_; have HX := Aside0.mk (Kd.C_below (d := k67) (show Kd.C k67 _ Ao30 x2_1.length x2_1 from (by (with_reducible repeat (first | refine Kd.C_alloc ?_ _ | refine Kd.C_drewN ?_ _ | refine Kd.C_drew ?_)); exact (Kd.R_reads' HO_2.out).2.2)) hb); have HXL := Aside0.mk (Kd.R_reads' HO_2.out).2.1; have H2 := Aside0.mk (Below.refl w38.heap.size w38); clear hg_ hnew_; (first | rw [← Ny180.out] at ho39 | (simp only [Int.reduceToNat] at ho39; rw [← Ny180.out] at ho39)); have n0_ := Aside0.mk (Kd.V_elder' (by (with_reducible repeat (first | apply Kd.V_alloc | apply Kd.V_drewN | apply Kd.V_drew)); exact HO175.out) (Kd.N_base ho39) hb); have n1_ := Aside0.mk (Kd.N_elder' (by (with_reducible repeat (first | apply Kd.N_alloc | apply Kd.N_drewN | apply Kd.N_drew)); exact HO178.out) (Kd.N_base ho39) hb); have n2_ := Aside0.mk (Kd.N_lower ho39 (below_size (by repeat (first | (with_reducible first | exact HB.out | apply below_alloc | apply pw_below_drewN | apply below_drew1 | refine below_set ?_ GE166.out | refine below_set ?_ GE179.out) | exact HB.out)))); have n3_ := Aside0.mk (blk_below (g := gb166) (o := .cells #[.int .i64 x167000_1, .int .i64 x167001_1, .int .i64 x167002_1, .int .i64 x167003_1, .int .i64 x167004_1, .int .i64 x167005_1, .int .i64 x167006_1] 67 (0, 0)) (by (with_reducible repeat (first | refine blk_drewN ?_ _ | refine blk_drew ?_ | refine blk_alloc ?_ _)); exact BK166.out) hb); have n4_ := Aside0.mk (blk_below (g := gb179) (o := .cells #[.int .i64 0, .int .i64 1, .int .i64 1, .slice Ao33 y176.length co33] 64 (0, 0)) (by (with_reducible repeat (first | refine blk_drewN ?_ _ | refine blk_drew ?_ | refine blk_alloc ?_ _)); exact BK179.out) hb); have n5_ := Aside0.mk (below_step (by repeat (first | (with_reducible first | exact HB.out | apply below_alloc | apply pw_below_drewN | apply below_drew1 | refine below_set ?_ GE166.out | refine below_set ?_ GE179.out) | exact HB.out)) hb); clear HO175; clear HO178; clear BK166; clear BK179; clear HB; clear HO_2; have HO175 := n0_; have HO178 := n1_; have HO182 := n2_; have BK166 := n3_; have BK179 := n4_; have HB := n5_; clear n0_ n1_ n2_ n3_ n4_ n5_; clear hb ho39; obtain ⟨Ao40, co40, eo40⟩ := Kd.N_slice HO182.out; subst eo40) | ((with_reducible refine gate_dst (N := 5) rfl ?_); refine box_event ?hg (N := 5) ?hd (cs := #[.int .i64 0, .int .i64 0, .int .i64 0, .slice none 0 0]) (t := 64) ?hr ?_; (case hd => rfl); (case hg => rfl); (case hr => first | (go_simp; done) | (go_simp; rfl)); intro gb183 hg w41 hbox hb; have G2 := Aside0.mk (show w38.heap.size ≤ gb183 by rw [hg]; exact below_size (by repeat (first | (with_reducible first | exact H2.out | apply below_alloc | apply pw_below_drewN | apply below_drew1) | exact H2.out))); have n0_ := Aside0.mk (Kd.V_below (Kd.V_elderB (by (with_reducible repeat (first | apply Kd.V_alloc | apply Kd.V_drewN | apply Kd.V_drew)); exact HO175.out) gb183 (Nat.le_of_eq hg.symm)) hb); have n1_ := Aside0.mk (Kd.N_below (Kd.N_elderB (by (with_reducible repeat (first | apply Kd.N_alloc | apply Kd.N_drewN | apply Kd.N_drew)); exact HO178.out) gb183 (Nat.le_of_eq hg.symm)) hb); have n2_ := Aside0.mk (Kd.N_below (Kd.N_elderB (by (with_reducible repeat (first | apply Kd.N_alloc | apply Kd.N_drewN | apply Kd.N_drew)); exact HO182.out) gb183 (Nat.le_of_eq hg.symm)) hb); have n3_ := Aside0.mk (blk_below (g := gb166) (o := .cells #[.int .i64 x167000_1, .int .i64 x167001_1, .int .i64 x167002_1, .int .i64 x167003_1, .int .i64 x167004_1, .int .i64 x167005_1, .int .i64 x167006_1] 67 (0, 0)) (by (with_reducible repeat (first | refine blk_drewN ?_ _ | refine blk_drew ?_ | refine blk_alloc ?_ _)); exact BK166.out) hb); have n4_ := Aside0.mk (blk_below (g := gb179) (o := .cells #[.int .i64 0, .int .i64 1, .int .i64 1, .slice Ao33 y176.length co33] 64 (0, 0)) (by (with_reducible repeat (first | refine blk_drewN ?_ _ | refine blk_drew ?_ | refine blk_alloc ?_ _)); exact BK179.out) hb); have n5_ := Aside0.mk (below_step (by repeat (first | (with_reducible first | exact HB.out | apply below_alloc | apply pw_below_drewN | apply below_drew1 | refine below_set ?_ GE166.out | refine below_set ?_ GE179.out) | exact HB.out)) hb); have h2n_ := Aside0.mk (below_step (by repeat (first | (with_reducible first | exact H2.out | apply below_alloc | apply pw_below_drewN | apply below_drew1) | exact H2.out)) hb); have n6_ := Aside0.mk (hbox); have n7_ := Aside0.mk ((by rw [hg]; exact (below_size (by repeat (first | (with_reducible first | exact HB.out | apply below_alloc | apply pw_below_drewN | apply below_drew1 | refine below_set ?_ GE166.out | refine below_set ?_ GE179.out) | exact HB.out))) : w.heap.size ≤ gb183)); have n8_ := Aside0.mk ((by rw [hg]; exact (below_size (by repeat (first | (with_reducible first | exact HB.out | apply below_alloc | apply pw_below_drewN | apply below_drew1 | refine below_set ?_ GE166.out | refine below_set ?_ GE179.out) | exact HB.out))) : w.heap.size ≤ gb183)); have n9_ := Aside0.mk ((by rw [hg]; exact Nat.ne_of_lt (blk_lt (g := gb166) (o := .cells #[.int .i64 x167000_1, .int .i64 x167001_1, .int .i64 x167002_1, .int .i64 x167003_1, .int .i64 x167004_1, .int .i64 x167005_1, .int .i64 x167006_1] 67 (0, 0)) (by (with_reducible repeat (first | refine blk_drewN ?_ _ | refine blk_drew ?_ | refine blk_alloc ?_ _)); exact BK166.out)) : gb166 ≠ gb183)); have n10_ := Aside0.mk ((by rw [hg]; exact Nat.ne_of_gt (blk_lt (g := gb166) (o := .cells #[.int .i64 x167000_1, .int .i64 x167001_1, .int .i64 x167002_1, .int .i64 x167003_1, .int .i64 x167004_1, .int .i64 x167005_1, .int .i64 x167006_1] 67 (0, 0)) (by (with_reducible repeat (first | refine blk_drewN ?_ _ | refine blk_drew ?_ | refine blk_alloc ?_ _)); exact BK166.out)) : gb183 ≠ gb166)); have n11_ := Aside0.mk ((by rw [hg]; exact Nat.ne_of_lt (blk_lt (g := gb179) (o := .cells #[.int .i64 0, .int .i64 1, .int .i64 1, .slice Ao33 y176.length co33] 64 (0, 0)) (by (with_reducible repeat (first | refine blk_drewN ?_ _ | refine blk_drew ?_ | refine blk_alloc ?_ _)); exact BK179.out)) : gb179 ≠ gb183)); have n12_ := Aside0.mk ((by rw [hg]; exact Nat.ne_of_gt (blk_lt (g := gb179) (o := .cells #[.int .i64 0, .int .i64 1, .int .i64 1, .slice Ao33 y176.length co33] 64 (0, 0)) (by (with_reducible repeat (first | refine blk_drewN ?_ _ | refine blk_drew ?_ | refine blk_alloc ?_ _)); exact BK179.out)) : gb183 ≠ gb179)); clear HO175; clear HO178; clear HO182; clear BK166; clear BK179; clear HB; clear H2; have HO175 := n0_; have HO178 := n1_; have HO182 := n2_; have BK166 := n3_; have BK179 := n4_; have HB := n5_; have H2 := h2n_; clear h2n_; have BK183 := n6_; have GW183 := n7_; have GE183 := n8_; have NB166_183 := n9_; have NB183_166 := n10_; have NB179_183 := n11_; have NB183_179 := n12_; clear n0_ n1_ n2_ n3_ n4_ n5_ n6_ n7_ n8_ n9_ n10_ n11_ n12_; clear hb hbox hg; have hnb42 := NB183_166.out; have hnc42 := NB166_183.out; have hnb43 := NB183_179.out; have hnc43 := NB179_183.out; have hcz44_0 : w41.cell? ⟨gb183, 0, none⟩ = some (.int .i64 0) := (blk_cell BK183.out 0).trans rfl; have hcz44_1 : w41.cell? ⟨gb183, 1, none⟩ = some (.int .i64 0) := (blk_cell BK183.out 1).trans rfl; have hcz44_2 : w41.cell? ⟨gb183, 2, none⟩ = some (.int .i64 0) := (blk_cell BK183.out 2).trans rfl; have hcz44_3 : w41.cell? ⟨gb183, 3, none⟩ = some (.slice none 0 0) := (blk_cell BK183.out 3).trans rfl; have hfz44_0 := blk_frozen BK183.out 0; have hfz44_1 := blk_frozen BK183.out 1; have hfz44_2 := blk_frozen BK183.out 2; have hfz44_3 := blk_frozen BK183.out 3; have hcz45_0 : w41.cell? ⟨gb166, 0, none⟩ = some (.int .i64 x167000_1) := (blk_cell BK166.out 0).trans rfl; have hcz45_1 : w41.cell? ⟨gb166, 1, none⟩ = some (.int .i64 x167001_1) := (blk_cell BK166.out 1).trans rfl; have hcz45_2 : w41.cell? ⟨gb166, 2, none⟩ = some (.int .i64 x167002_1) := (blk_cell BK166.out 2).trans rfl; have hcz45_3 : w41.cell? ⟨gb166, 3, none⟩ = some (.int .i64 x167003_1) := (blk_cell BK166.out 3).trans rfl; have hcz45_4 : w41.cell? ⟨gb166, 4, none⟩ = some (.int .i64 x167004_1) := (blk_cell BK166.out 4).trans rfl; have hcz45_5 : w41.cell? ⟨gb166, 5, none⟩ = some (.int .i64 x167005_1) := (blk_cell BK166.out 5).trans rfl; have hcz45_6 : w41.cell? ⟨gb166, 6, none⟩ = some (.int .i64 x167006_1) := (blk_cell BK166.out 6).trans rfl; have hfz45_0 := blk_frozen BK166.out 0; have hfz45_1 := blk_frozen BK166.out 1; have hfz45_2 := blk_frozen BK166.out 2; have hfz45_3 := blk_frozen BK166.out 3; have hfz45_4 := blk_frozen BK166.out 4; have hfz45_5 := blk_frozen BK166.out 5; have hfz45_6 := blk_frozen BK166.out 6) | ((with_reducible refine gate_callee (f := 38) rfl ?_); refine goesL_ (some 28) rfl rfl Try.func38 (by kernel_rfl) rfl #[.agg #[.int .i64 x167000_1, .int .i64 x167001_1, .int .i64 x167002_1, .int .i64 x167003_1, .int .i64 x167004_1, .int .i64 x167005_1, .int .i64 x167006_1], .int .i64 1, .int .i64 1] rfl (by (try simp only [List.map_toArray, List.map_cons, List.map_nil]); first | done | rfl | (simp only [List.length_drop, List.length_take]; rfl)) ?_; (with_reducible refine (machine_Instr.calls k1 x167000_1 x167001_1 x167002_1 x167003_1 x167004_1 x167005_1 x167006_1 1 1 t184 _ A14.out).mono ?_); rintro e w46 ⟨rfl, hb⟩; refine ⟨_, rfl, ?_⟩; have n0_ := Aside0.mk (Kd.V_below (by (with_reducible repeat (first | apply Kd.V_alloc | apply Kd.V_drewN | apply Kd.V_drew)); exact (Kd.V_mono (Kd.V_far (p := ⟨gb183, 3, none⟩) (Kd.V_far (p := ⟨gb183, 2, none⟩) (Kd.V_far (p := ⟨gb183, 1, none⟩) (Kd.V_far (p := ⟨gb183, 0, none⟩) (Kd.V_mono HO175.out (fun k_ hk => (⟨hk, hk.2⟩ : _ ∧ k_ ≠ gb183))) (fun _ hk => hk.2) (.int .i64 0)) (fun _ hk => hk.2) (.int .i64 1)) (fun _ hk => hk.2) (.int .i64 1)) (fun _ hk => hk.2) (.slice Ao40 y180.length co40)) (fun _ h_ => h_.1))) hb); have n1_ := Aside0.mk (Kd.N_below (by (with_reducible repeat (first | apply Kd.N_alloc | apply Kd.N_drewN | apply Kd.N_drew)); exact (Kd.N_mono (Kd.N_far (p := ⟨gb183, 3, none⟩) (Kd.N_far (p := ⟨gb183, 2, none⟩) (Kd.N_far (p := ⟨gb183, 1, none⟩) (Kd.N_far (p := ⟨gb183, 0, none⟩) (Kd.N_mono HO178.out (fun k_ hk => (⟨hk, hk.2⟩ : _ ∧ k_ ≠ gb183))) (fun _ hk => hk.2) (.int .i64 0)) (fun _ hk => hk.2) (.int .i64 1)) (fun _ hk => hk.2) (.int .i64 1)) (fun _ hk => hk.2) (.slice Ao40 y180.length co40)) (fun _ h_ => h_.1))) hb); have n2_ := Aside0.mk (Kd.N_below (by (with_reducible repeat (first | apply Kd.N_alloc | apply Kd.N_drewN | apply Kd.N_drew)); exact (Kd.N_mono (Kd.N_far (p := ⟨gb183, 3, none⟩) (Kd.N_far (p := ⟨gb183, 2, none⟩) (Kd.N_far (p := ⟨gb183, 1, none⟩) (Kd.N_far (p := ⟨gb183, 0, none⟩) (Kd.N_mono HO182.out (fun k_ hk => (⟨hk, hk.2⟩ : _ ∧ k_ ≠ gb183))) (fun _ hk => hk.2) (.int .i64 0)) (fun _ hk => hk.2) (.int .i64 1)) (fun _ hk => hk.2) (.int .i64 1)) (fun _ hk => hk.2) (.slice Ao40 y180.length co40)) (fun _ h_ => h_.1))) hb); have n3_ := Aside0.mk (blk_below (g := gb166) (o := .cells #[.int .i64 x167000_1, .int .i64 x167001_1, .int .i64 x167002_1, .int .i64 x167003_1, .int .i64 x167004_1, .int .i64 x167005_1, .int .i64 x167006_1] 67 (0, 0)) (by (with_reducible repeat (first | refine blk_drewN ?_ _ | refine blk_drew ?_ | refine blk_alloc ?_ _)); refine blk_far ?_ NB166_183.out _; (with_reducible repeat (first | refine blk_drewN ?_ _ | refine blk_drew ?_ | refine blk_alloc ?_ _)); refine blk_far ?_ NB166_183.out _; (with_reducible repeat (first | refine blk_drewN ?_ _ | refine blk_drew ?_ | refine blk_alloc ?_ _)); refine blk_far ?_ NB166_183.out _; (with_reducible repeat (first | refine blk_drewN ?_ _ | refine blk_drew ?_ | refine blk_alloc ?_ _)); refine blk_far ?_ NB166_183.out _; (with_reducible repeat (first | refine blk_drewN ?_ _ | refine blk_drew ?_ | refine blk_alloc ?_ _)); exact BK166.out) hb); have n4_ := Aside0.mk (blk_below (g := gb179) (o := .cells #[.int .i64 0, .int .i64 1, .int .i64 1, .slice Ao33 y176.length co33] 64 (0, 0)) (by (with_reducible repeat (first | refine blk_drewN ?_ _ | refine blk_drew ?_ | refine blk_alloc ?_ _)); refine blk_far ?_ NB179_183.out _; (with_reducible repeat (first | refine blk_drewN ?_ _ | refine blk_drew ?_ | refine blk_alloc ?_ _)); refine blk_far ?_ NB179_183.out _; (with_reducible repeat (first | refine blk_drewN ?_ _ | refine blk_drew ?_ | refine blk_alloc ?_ _)); refine blk_far ?_ NB179_183.out _; (with_reducible repeat (first | refine blk_drewN ?_ _ | refine blk_drew ?_ | refine blk_alloc ?_ _)); refine blk_far ?_ NB179_183.out _; (with_reducible repeat (first | refine blk_drewN ?_ _ | refine blk_drew ?_ | refine blk_alloc ?_ _)); exact BK179.out) hb); have n5_ := Aside0.mk (blk_below (g := gb183) (o := .cells #[.int .i64 0, .int .i64 1, .int .i64 1, .slice Ao40 y180.length co40] 64 (0, 0)) (by (with_reducible repeat (first | refine blk_drewN ?_ _ | refine blk_drew ?_ | refine blk_alloc ?_ _)); refine blk_put (cs := #[.int .i64 0, .int .i64 1, .int .i64 1, .slice none 0 0]) ?_ 3 _ rfl; (with_reducible repeat (first | refine blk_drewN ?_ _ | refine blk_drew ?_ | refine blk_alloc ?_ _)); refine blk_put (cs := #[.int .i64 0, .int .i64 1, .int .i64 0, .slice none 0 0]) ?_ 2 _ rfl; (with_reducible repeat (first | refine blk_drewN ?_ _ | refine blk_drew ?_ | refine blk_alloc ?_ _)); refine blk_put (cs := #[.int .i64 0, .int .i64 0, .int .i64 0, .slice none 0 0]) ?_ 1 _ rfl; (with_reducible repeat (first | refine blk_drewN ?_ _ | refine blk_drew ?_ | refine blk_alloc ?_ _)); refine blk_put (cs := #[.int .i64 0, .int .i64 0, .int .i64 0, .slice none 0 0]) ?_ 0 _ rfl; (with_reducible repeat (first | refine blk_drewN ?_ _ | refine blk_drew ?_ | refine blk_alloc ?_ _)); exact BK183.out) hb); have n6_ := Aside0.mk (below_step (by repeat (first | (with_reducible first | exact HB.out | apply below_alloc | apply pw_below_drewN | apply below_drew1 | refine below_set ?_ GE166.out | refine below_set ?_ GE179.out | refine below_set ?_ GE183.out) | exact HB.out)) hb); have h2n_ := Aside0.mk (below_step (by repeat (first | (with_reducible first | exact H2.out | apply below_alloc | apply pw_below_drewN | apply below_drew1 | refine below_set ?_ G2.out) | exact H2.out)) hb); clear HO175; clear HO178; clear HO182; clear BK166; clear BK179; clear BK183; clear HB; clear H2; have HO175 := n0_; have HO178 := n1_; have HO182 := n2_; have BK166 := n3_; have BK179 := n4_; have BK183 := n5_; have HB := n6_; have H2 := h2n_; clear h2n_; clear n0_ n1_ n2_ n3_ n4_ n5_ n6_; (try clear hb); (try clear hb2); (try clear hk); (try clear hi)) | (go_at_call 38; (with_reducible refine (machine_Instr.calls k1 18 0 0 0 0 3 1 9 9 t185 _ A16.out).mono ?_); rintro e w47 ⟨rfl, hb⟩; have n0_ := Aside0.mk (Kd.V_below (by (with_reducible repeat (first | apply Kd.V_alloc | apply Kd.V_drewN | apply Kd.V_drew)); exact HO175.out) hb); have n1_ := Aside0.mk (Kd.N_below (by (with_reducible repeat (first | apply Kd.N_alloc | apply Kd.N_drewN | apply Kd.N_drew)); exact HO178.out) hb); have n2_ := Aside0.mk (Kd.N_below (by (with_reducible repeat (first | apply Kd.N_alloc | apply Kd.N_drewN | apply Kd.N_drew)); exact HO182.out) hb); have n3_ := Aside0.mk (blk_below (g := gb166) (o := .cells #[.int .i64 x167000_1, .int .i64 x167001_1, .int .i64 x167002_1, .int .i64 x167003_1, .int .i64 x167004_1, .int .i64 x167005_1, .int .i64 x167006_1] 67 (0, 0)) (by (with_reducible repeat (first | refine blk_drewN ?_ _ | refine blk_drew ?_ | refine blk_alloc ?_ _)); exact BK166.out) hb); have n4_ := Aside0.mk (blk_below (g := gb179) (o := .cells #[.int .i64 0, .int .i64 1, .int .i64 1, .slice Ao33 y176.length co33] 64 (0, 0)) (by (with_reducible repeat (first | refine blk_drewN ?_ _ | refine blk_drew ?_ | refine blk_alloc ?_ _)); exact BK179.out) hb); have n5_ := Aside0.mk (blk_below (g := gb183) (o := .cells #[.int .i64 0, .int .i64 1, .int .i64 1, .slice Ao40 y180.length co40] 64 (0, 0)) (by (with_reducible repeat (first | refine blk_drewN ?_ _ | refine blk_drew ?_ | refine blk_alloc ?_ _)); exact BK183.out) hb); have n6_ := Aside0.mk (below_step (by repeat (first | (with_reducible first | exact HB.out | apply below_alloc | apply pw_below_drewN | apply below_drew1 | refine below_set ?_ GE166.out | refine below_set ?_ GE179.out | refine below_set ?_ GE183.out) | exact HB.out)) hb); have h2n_ := Aside0.mk (below_step (by repeat (first | (with_reducible first | exact H2.out | apply below_alloc | apply pw_below_drewN | apply below_drew1 | refine below_set ?_ G2.out) | exact H2.out)) hb); clear HO175; clear HO178; clear HO182; clear BK166; clear BK179; clear BK183; clear HB; clear H2; have HO175 := n0_; have HO178 := n1_; have HO182 := n2_; have BK166 := n3_; have BK179 := n4_; have BK183 := n5_; have HB := n6_; have H2 := h2n_; clear h2n_; clear n0_ n1_ n2_ n3_ n4_ n5_ n6_; (try clear hb); (try clear hb2); (try clear hk); (try clear hi)) | (go_at_call 38; (with_reducible refine (machine_Instr.calls k1 2 0 0 0 0 0 0 9 9 t186 _ A18.out).mono ?_); rintro e w48 ⟨rfl, hb⟩; have n0_ := Aside0.mk (Kd.V_below (by (with_reducible repeat (first | apply Kd.V_alloc | apply Kd.V_drewN | apply Kd.V_drew)); exact HO175.out) hb); have n1_ := Aside0.mk (Kd.N_below (by (with_reducible repeat (first | apply Kd.N_alloc | apply Kd.N_drewN | apply Kd.N_drew)); exact HO178.out) hb); have n2_ := Aside0.mk (Kd.N_below (by (with_reducible repeat (first | apply Kd.N_alloc | apply Kd.N_drewN | apply Kd.N_drew)); exact HO182.out) hb); have n3_ := Aside0.mk (blk_below (g := gb166) (o := .cells #[.int .i64 x167000_1, .int .i64 x167001_1, .int .i64 x167002_1, .int .i64 x167003_1, .int .i64 x167004_1, .int .i64 x167005_1, .int .i64 x167006_1] 67 (0, 0)) (by (with_reducible repeat (first | refine blk_drewN ?_ _ | refine blk_drew ?_ | refine blk_alloc ?_ _)); exact BK166.out) hb); have n4_ := Aside0.mk (blk_below (g := gb179) (o := .cells #[.int .i64 0, .int .i64 1, .int .i64 1, .slice Ao33 y176.length co33] 64 (0, 0)) (by (with_reducible repeat (first | refine blk_drewN ?_ _ | refine blk_drew ?_ | refine blk_alloc ?_ _)); exact BK179.out) hb); have n5_ := Aside0.mk (blk_below (g := gb183) (o := .cells #[.int .i64 0, .int .i64 1, .int .i64 1, .slice Ao40 y180.length co40] 64 (0, 0)) (by (with_reducible repeat (first | refine blk_drewN ?_ _ | refine blk_drew ?_ | refine blk_alloc ?_ _)); exact BK183.out) hb); have n6_ := Aside0.mk (below_step (by repeat (first | (with_reducible first | exact HB.out | apply below_alloc | apply pw_below_drewN | apply below_drew1 | refine below_set ?_ GE166.out | refine below_set ?_ GE179.out | refine below_set ?_ GE183.out) | exact HB.out)) hb); have h2n_ := Aside0.mk (below_step (by repeat (first | (with_reducible first | exact H2.out | apply below_alloc | apply pw_below_drewN | apply below_drew1 | refine below_set ?_ G2.out) | exact H2.out)) hb); clear HO175; clear HO178; clear HO182; clear BK166; clear BK179; clear BK183; clear HB; clear H2; have HO175 := n0_; have HO178 := n1_; have HO182 := n2_; have BK166 := n3_; have BK179 := n4_; have BK183 := n5_; have HB := n6_; have H2 := h2n_; clear h2n_; clear n0_ n1_ n2_ n3_ n4_ n5_ n6_; (try clear hb); (try clear hb2); (try clear hk); (try clear hi); have hcz49_0 : w48.cell? ⟨gb179, 0, none⟩ = some (.int .i64 0) := (blk_cell BK179.out 0).trans rfl; have hcz49_1 : w48.cell? ⟨gb179, 1, none⟩ = some (.int .i64 1) := (blk_cell BK179.out 1).trans rfl; have hcz49_2 : w48.cell? ⟨gb179, 2, none⟩ = some (.int .i64 1) := (blk_cell BK179.out 2).trans rfl; have hcz49_3 : w48.cell? ⟨gb179, 3, none⟩ = some (.slice Ao33 y176.length co33) := (blk_cell BK179.out 3).trans rfl; have hfz49_0 := blk_frozen BK179.out 0; have hfz49_1 := blk_frozen BK179.out 1; have hfz49_2 := blk_frozen BK179.out 2; have hfz49_3 := blk_frozen BK179.out 3) | (go_at_call 36; (with_reducible refine (machine_Check.calls k1 0 1 1 _ _ y176 t187 _ ?side1 ?side2 A20.out).mono ?_); (case side1 => repeat (first | exact (Kd.N_reads' HO178.out).2.2 | (with_reducible refine Kd.C_alloc ?_ _) | (with_reducible refine Kd.C_drewN ?_ _) | (with_reducible refine Kd.C_drew ?_))); (case side2 => exact (Kd.N_reads' HO178.out).2.1); rintro e w50 ⟨rfl, hb⟩; have n0_ := Aside0.mk (Kd.V_below (by (with_reducible repeat (first | apply Kd.V_alloc | apply Kd.V_drewN | apply Kd.V_drew)); exact HO175.out) hb); have n1_ := Aside0.mk (Kd.N_below (by (with_reducible repeat (first | apply Kd.N_alloc | apply Kd.N_drewN | apply Kd.N_drew)); exact HO178.out) hb); have n2_ := Aside0.mk (Kd.N_below (by (with_reducible repeat (first | apply Kd.N_alloc | apply Kd.N_drewN | apply Kd.N_drew)); exact HO182.out) hb); have n3_ := Aside0.mk (blk_below (g := gb166) (o := .cells #[.int .i64 x167000_1, .int .i64 x167001_1, .int .i64 x167002_1, .int .i64 x167003_1, .int .i64 x167004_1, .int .i64 x167005_1, .int .i64 x167006_1] 67 (0, 0)) (by (with_reducible repeat (first | refine blk_drewN ?_ _ | refine blk_drew ?_ | refine blk_alloc ?_ _)); exact BK166.out) hb); have n4_ := Aside0.mk (blk_below (g := gb179) (o := .cells #[.int .i64 0, .int .i64 1, .int .i64 1, .slice Ao33 y176.length co33] 64 (0, 0)) (by (with_reducible repeat (first | refine blk_drewN ?_ _ | refine blk_drew ?_ | refine blk_alloc ?_ _)); exact BK179.out) hb); have n5_ := Aside0.mk (blk_below (g := gb183) (o := .cells #[.int .i64 0, .int .i64 1, .int .i64 1, .slice Ao40 y180.length co40] 64 (0, 0)) (by (with_reducible repeat (first | refine blk_drewN ?_ _ | refine blk_drew ?_ | refine blk_alloc ?_ _)); exact BK183.out) hb); have n6_ := Aside0.mk (below_step (by repeat (first | (with_reducible first | exact HB.out | apply below_alloc | apply pw_below_drewN | apply below_drew1 | refine below_set ?_ GE166.out | refine below_set ?_ GE179.out | refine below_set ?_ GE183.out) | exact HB.out)) hb); have h2n_ := Aside0.mk (below_step (by repeat (first | (with_reducible first | exact H2.out | apply below_alloc | apply pw_below_drewN | apply below_drew1 | refine below_set ?_ G2.out) | exact H2.out)) hb); clear HO175; clear HO178; clear HO182; clear BK166; clear BK179; clear BK183; clear HB; clear H2; have HO175 := n0_; have HO178 := n1_; have HO182 := n2_; have BK166 := n3_; have BK179 := n4_; have BK183 := n5_; have HB := n6_; have H2 := h2n_; clear h2n_; clear n0_ n1_ n2_ n3_ n4_ n5_ n6_; (try clear hb); (try clear hb2); (try clear hk); (try clear hi); have hcz51_0 : w50.cell? ⟨gb183, 0, none⟩ = some (.int .i64 0) := (blk_cell BK183.out 0).trans rfl; have hcz51_1 : w50.cell? ⟨gb183, 1, none⟩ = some (.int .i64 1) := (blk_cell BK183.out 1).trans rfl; have hcz51_2 : w50.cell? ⟨gb183, 2, none⟩ = some (.int .i64 1) := (blk_cell BK183.out 2).trans rfl; have hcz51_3 : w50.cell? ⟨gb183, 3, none⟩ = some (.slice Ao40 y180.length co40) := (blk_cell BK183.out 3).trans rfl; have hfz51_0 := blk_frozen BK183.out 0; have hfz51_1 := blk_frozen BK183.out 1; have hfz51_2 := blk_frozen BK183.out 2; have hfz51_3 := blk_frozen BK183.out 3) | (go_at_call 36; (with_reducible refine (machine_Check.calls k1 0 1 1 _ _ y180 t188 _ ?side1 ?side2 A22.out).mono ?_); (case side1 => repeat (first | exact (Kd.N_reads' HO182.out).2.2 | (with_reducible refine Kd.C_alloc ?_ _) | (with_reducible refine Kd.C_drewN ?_ _) | (with_reducible refine Kd.C_drew ?_))); (case side2 => exact (Kd.N_reads' HO182.out).2.1); rintro e w52 ⟨rfl, hb⟩; have n0_ := Aside0.mk (Kd.V_below (by (with_reducible repeat (first | apply Kd.V_alloc | apply Kd.V_drewN | apply Kd.V_drew)); exact HO175.out) hb); have n1_ := Aside0.mk (Kd.N_below (by (with_reducible repeat (first | apply Kd.N_alloc | apply Kd.N_drewN | apply Kd.N_drew)); exact HO178.out) hb); have n2_ := Aside0.mk (Kd.N_below (by (with_reducible repeat (first | apply Kd.N_alloc | apply Kd.N_drewN | apply Kd.N_drew)); exact HO182.out) hb); have n3_ := Aside0.mk (blk_below (g := gb166) (o := .cells #[.int .i64 x167000_1, .int .i64 x167001_1, .int .i64 x167002_1, .int .i64 x167003_1, .int .i64 x167004_1, .int .i64 x167005_1, .int .i64 x167006_1] 67 (0, 0)) (by (with_reducible repeat (first | refine blk_drewN ?_ _ | refine blk_drew ?_ | refine blk_alloc ?_ _)); exact BK166.out) hb); have n4_ := Aside0.mk (blk_below (g := gb179) (o := .cells #[.int .i64 0, .int .i64 1, .int .i64 1, .slice Ao33 y176.length co33] 64 (0, 0)) (by (with_reducible repeat (first | refine blk_drewN ?_ _ | refine blk_drew ?_ | refine blk_alloc ?_ _)); exact BK179.out) hb); have n5_ := Aside0.mk (blk_below (g := gb183) (o := .cells #[.int .i64 0, .int .i64 1, .int .i64 1, .slice Ao40 y180.length co40] 64 (0, 0)) (by (with_reducible repeat (first | refine blk_drewN ?_ _ | refine blk_drew ?_ | refine blk_alloc ?_ _)); exact BK183.out) hb); have n6_ := Aside0.mk (below_step (by repeat (first | (with_reducible first | exact HB.out | apply below_alloc | apply pw_below_drewN | apply below_drew1 | refine below_set ?_ GE166.out | refine below_set ?_ GE179.out | refine below_set ?_ GE183.out) | exact HB.out)) hb); have h2n_ := Aside0.mk (below_step (by repeat (first | (with_reducible first | exact H2.out | apply below_alloc | apply pw_below_drewN | apply below_drew1 | refine below_set ?_ G2.out) | exact H2.out)) hb); clear HO175; clear HO178; clear HO182; clear BK166; clear BK179; clear BK183; clear HB; clear H2; have HO175 := n0_; have HO178 := n1_; have HO182 := n2_; have BK166 := n3_; have BK179 := n4_; have BK183 := n5_; have HB := n6_; have H2 := h2n_; clear h2n_; clear n0_ n1_ n2_ n3_ n4_ n5_ n6_; (try clear hb); (try clear hb2); (try clear hk); (try clear hi)) | (go_at_call 34; (with_reducible refine (machine_Moves.calls k1 _ _ x2_1 t189 _ ?side1 ?side2 A24.out).mono ?_); (case side1 => repeat (first | exact Kd.C_below HX.out H2.out | (with_reducible refine Kd.C_alloc ?_ _) | (with_reducible refine Kd.C_drewN ?_ _) | (with_reducible refine Kd.C_drew ?_))); (case side2 => exact HXL.out); rintro e w53 ⟨rfl, hb⟩; have n0_ := Aside0.mk (Kd.V_below (by (with_reducible repeat (first | apply Kd.V_alloc | apply Kd.V_drewN | apply Kd.V_drew)); exact HO175.out) hb); have n1_ := Aside0.mk (Kd.N_below (by (with_reducible repeat (first | apply Kd.N_alloc | apply Kd.N_drewN | apply Kd.N_drew)); exact HO178.out) hb); have n2_ := Aside0.mk (Kd.N_below (by (with_reducible repeat (first | apply Kd.N_alloc | apply Kd.N_drewN | apply Kd.N_drew)); exact HO182.out) hb); have n3_ := Aside0.mk (blk_below (g := gb166) (o := .cells #[.int .i64 x167000_1, .int .i64 x167001_1, .int .i64 x167002_1, .int .i64 x167003_1, .int .i64 x167004_1, .int .i64 x167005_1, .int .i64 x167006_1] 67 (0, 0)) (by (with_reducible repeat (first | refine blk_drewN ?_ _ | refine blk_drew ?_ | refine blk_alloc ?_ _)); exact BK166.out) hb); have n4_ := Aside0.mk (blk_below (g := gb179) (o := .cells #[.int .i64 0, .int .i64 1, .int .i64 1, .slice Ao33 y176.length co33] 64 (0, 0)) (by (with_reducible repeat (first | refine blk_drewN ?_ _ | refine blk_drew ?_ | refine blk_alloc ?_ _)); exact BK179.out) hb); have n5_ := Aside0.mk (blk_below (g := gb183) (o := .cells #[.int .i64 0, .int .i64 1, .int .i64 1, .slice Ao40 y180.length co40] 64 (0, 0)) (by (with_reducible repeat (first | refine blk_drewN ?_ _ | refine blk_drew ?_ | refine blk_alloc ?_ _)); exact BK183.out) hb); have n6_ := Aside0.mk (below_step (by repeat (first | (with_reducible first | exact HB.out | apply below_alloc | apply pw_below_drewN | apply below_drew1 | refine below_set ?_ GE166.out | refine below_set ?_ GE179.out | refine below_set ?_ GE183.out) | exact HB.out)) hb); have h2n_ := Aside0.mk (below_step (by repeat (first | (with_reducible first | exact H2.out | apply below_alloc | apply pw_below_drewN | apply below_drew1 | refine below_set ?_ G2.out) | exact H2.out)) hb); clear HO175; clear HO178; clear HO182; clear BK166; clear BK179; clear BK183; clear HB; clear H2; have HO175 := n0_; have HO178 := n1_; have HO182 := n2_; have BK166 := n3_; have BK179 := n4_; have BK183 := n5_; have HB := n6_; have H2 := h2n_; clear h2n_; clear n0_ n1_ n2_ n3_ n4_ n5_ n6_; (try clear hb); (try clear hb2); (try clear hk); (try clear hi); have hcz54_0 : w53.cell? ⟨gb183, 0, none⟩ = some (.int .i64 0) := (blk_cell BK183.out 0).trans rfl; have hcz54_1 : w53.cell? ⟨gb183, 1, none⟩ = some (.int .i64 1) := (blk_cell BK183.out 1).trans rfl; have hcz54_2 : w53.cell? ⟨gb183, 2, none⟩ = some (.int .i64 1) := (blk_cell BK183.out 2).trans rfl; have hcz54_3 : w53.cell? ⟨gb183, 3, none⟩ = some (.slice Ao40 y180.length co40) := (blk_cell BK183.out 3).trans rfl; have hfz54_0 := blk_frozen BK183.out 0; have hfz54_1 := blk_frozen BK183.out 1; have hfz54_2 := blk_frozen BK183.out 2; have hfz54_3 := blk_frozen BK183.out 3) | (go_at_call 40; (with_reducible refine (machine_Code.calls k1 0 1 1 _ _ y180 t190 _ ?side1 ?side2 A26.out).mono ?_); (case side1 => repeat (first | exact (Kd.N_reads' HO182.out).2.2 | (with_reducible refine Kd.C_alloc ?_ _) | (with_reducible refine Kd.C_drewN ?_ _) | (with_reducible refine Kd.C_drew ?_))); (case side2 => exact (Kd.N_reads' HO182.out).2.1); rintro e w55 ⟨rfl, hb⟩; have n0_ := Aside0.mk (Kd.V_below (by (with_reducible repeat (first | apply Kd.V_alloc | apply Kd.V_drewN | apply Kd.V_drew)); exact HO175.out) hb); have n1_ := Aside0.mk (Kd.N_below (by (with_reducible repeat (first | apply Kd.N_alloc | apply Kd.N_drewN | apply Kd.N_drew)); exact HO178.out) hb); have n2_ := Aside0.mk (Kd.N_below (by (with_reducible repeat (first | apply Kd.N_alloc | apply Kd.N_drewN | apply Kd.N_drew)); exact HO182.out) hb); have n3_ := Aside0.mk (blk_below (g := gb166) (o := .cells #[.int .i64 x167000_1, .int .i64 x167001_1, .int .i64 x167002_1, .int .i64 x167003_1, .int .i64 x167004_1, .int .i64 x167005_1, .int .i64 x167006_1] 67 (0, 0)) (by (with_reducible repeat (first | refine blk_drewN ?_ _ | refine blk_drew ?_ | refine blk_alloc ?_ _)); exact BK166.out) hb); have n4_ := Aside0.mk (blk_below (g := gb179) (o := .cells #[.int .i64 0, .int .i64 1, .int .i64 1, .slice Ao33 y176.length co33] 64 (0, 0)) (by (with_reducible repeat (first | refine blk_drewN ?_ _ | refine blk_drew ?_ | refine blk_alloc ?_ _)); exact BK179.out) hb); have n5_ := Aside0.mk (blk_below (g := gb183) (o := .cells #[.int .i64 0, .int .i64 1, .int .i64 1, .slice Ao40 y180.length co40] 64 (0, 0)) (by (with_reducible repeat (first | refine blk_drewN ?_ _ | refine blk_drew ?_ | refine blk_alloc ?_ _)); exact BK183.out) hb); have n6_ := Aside0.mk (below_step (by repeat (first | (with_reducible first | exact HB.out | apply below_alloc | apply pw_below_drewN | apply below_drew1 | refine below_set ?_ GE166.out | refine below_set ?_ GE179.out | refine below_set ?_ GE183.out) | exact HB.out)) hb); have h2n_ := Aside0.mk (below_step (by repeat (first | (with_reducible first | exact H2.out | apply below_alloc | apply pw_below_drewN | apply below_drew1 | refine below_set ?_ G2.out) | exact H2.out)) hb); clear HO175; clear HO178; clear HO182; clear BK166; clear BK179; clear BK183; clear HB; clear H2; have HO175 := n0_; have HO178 := n1_; have HO182 := n2_; have BK166 := n3_; have BK179 := n4_; have BK183 := n5_; have HB := n6_; have H2 := h2n_; clear h2n_; clear n0_ n1_ n2_ n3_ n4_ n5_ n6_; (try clear hb); (try clear hb2); (try clear hk); (try clear hi)) | (go_at_call 36; (refine (machine_Check.calls k1 0 0 0 _ _ ([] : List (S74)) t191 _ ?side1 ?side2 A28.out).mono ?_); (case side1 => exact Kd.C_nil _ _); (case side2 => exact Nat.le_refl _); rintro e w56 ⟨rfl, hb⟩; have n0_ := Aside0.mk (Kd.V_below (by (with_reducible repeat (first | apply Kd.V_alloc | apply Kd.V_drewN | apply Kd.V_drew)); exact HO175.out) hb); have n1_ := Aside0.mk (Kd.N_below (by (with_reducible repeat (first | apply Kd.N_alloc | apply Kd.N_drewN | apply Kd.N_drew)); exact HO178.out) hb); have n2_ := Aside0.mk (Kd.N_below (by (with_reducible repeat (first | apply Kd.N_alloc | apply Kd.N_drewN | apply Kd.N_drew)); exact HO182.out) hb); have n3_ := Aside0.mk (blk_below (g := gb166) (o := .cells #[.int .i64 x167000_1, .int .i64 x167001_1, .int .i64 x167002_1, .int .i64 x167003_1, .int .i64 x167004_1, .int .i64 x167005_1, .int .i64 x167006_1] 67 (0, 0)) (by (with_reducible repeat (first | refine blk_drewN ?_ _ | refine blk_drew ?_ | refine blk_alloc ?_ _)); exact BK166.out) hb); have n4_ := Aside0.mk (blk_below (g := gb179) (o := .cells #[.int .i64 0, .int .i64 1, .int .i64 1, .slice Ao33 y176.length co33] 64 (0, 0)) (by (with_reducible repeat (first | refine blk_drewN ?_ _ | refine blk_drew ?_ | refine blk_alloc ?_ _)); exact BK179.out) hb); have n5_ := Aside0.mk (blk_below (g := gb183) (o := .cells #[.int .i64 0, .int .i64 1, .int .i64 1, .slice Ao40 y180.length co40] 64 (0, 0)) (by (with_reducible repeat (first | refine blk_drewN ?_ _ | refine blk_drew ?_ | refine blk_alloc ?_ _)); exact BK183.out) hb); have n6_ := Aside0.mk (below_step (by repeat (first | (with_reducible first | exact HB.out | apply below_alloc | apply pw_below_drewN | apply below_drew1 | refine below_set ?_ GE166.out | refine below_set ?_ GE179.out | refine below_set ?_ GE183.out) | exact HB.out)) hb); have h2n_ := Aside0.mk (below_step (by repeat (first | (with_reducible first | exact H2.out | apply below_alloc | apply pw_below_drewN | apply below_drew1 | refine below_set ?_ G2.out) | exact H2.out)) hb); clear HO175; clear HO178; clear HO182; clear BK166; clear BK179; clear BK183; clear HB; clear H2; have HO175 := n0_; have HO178 := n1_; have HO182 := n2_; have BK166 := n3_; have BK179 := n4_; have BK183 := n5_; have HB := n6_; have H2 := h2n_; clear h2n_; clear n0_ n1_ n2_ n3_ n4_ n5_ n6_; (try clear hb); (try clear hb2); (try clear hk); (try clear hi)))
                          go_ret
                          exact ⟨by first | rfl | (simp [errW_none, errW_some] <;> rfl) | (simp [*, errW_none, errW_some] <;> rfl), by repeat (first | (with_reducible first | exact HB.out | apply below_alloc | apply pw_below_drewN | apply below_drew1 | refine below_set ?_ GE166.out | refine below_set ?_ GE179.out | refine below_set ?_ GE183.out) | exact HB.out)⟩
                        · rw [if_neg c27] at H
                          exact absurd H (by simp)
                      · rw [if_neg c25] at H
                        exact absurd H (by simp)
                    · rw [if_neg c23] at H
                      exact absurd H (by simp)
                  · rw [if_neg c21] at H
                    exact absurd H (by simp)
                · rw [if_neg c19] at H
                  exact absurd H (by simp)
              · rw [if_neg c17] at H
                exact absurd H (by simp)
            · rw [if_neg c15] at H
              exact absurd H (by simp)
          · rw [if_neg c13] at H
            exact absurd H (by simp)
  · rw [if_neg c1] at H
    exact absurd H (by simp)
def regcertref08_Code.l0 : Nat → Int → Int → Int → Int → Int → List (S74) → Option (Int)
  | 0, _, _, _, _, _, _ => none
  | k + 1, x3, x4, x193000, x193001, x193002, x193003 => if x4 < (x193003.length : Int) then (if 0 ≤ x4 then (regcertref08_Code.l0 k (wrap64 (x3 + (((rd_T74 x193003 x4).f0).length : Int))) (wrap64 (x4 + 1)) x193000 x193001 x193002 x193003) else (none)) else (some x3)
def regcertref08_Code.f (k : Nat) (a0_0 : Int) (a0_1 : Int) (a0_2 : Int) (l0_3 : List (S74)) : Option (Int) := regcertref08_Code.l0 k 0 0 a0_0 a0_1 a0_2 l0_3
theorem regcertref08_Code.mono_l : ∀ k, (∀ y0 y1 y2 y3 y4 y5, LeO (regcertref08_Code.l0 k y0 y1 y2 y3 y4 y5) (regcertref08_Code.l0 (k + 1) y0 y1 y2 y3 y4 y5))
  | 0 => fun _ _ _ _ _ _ r h => by simp [regcertref08_Code.l0] at h
  | k + 1 => by
    have ih0 := regcertref08_Code.mono_l k
    · intro y0 y1 y2 y3 y4 y5
      unfold regcertref08_Code.l0
      repeat' first
      | (with_reducible exact ih0 _ _ _ _ _ _)
      | (with_reducible exact LeO.refl _)
      | (with_reducible exact LeO.none _)
      | (with_reducible refine LeO.ite ?_ ?_)
      | (with_reducible refine LeO.bind ?_ (fun _ => ?_))
      | exact ih0 _ _ _ _ _ _
      | exact LeO.none _
      | refine LeO.ite ?_ ?_
      | refine LeO.bind ?_ (fun _ => ?_)
theorem regcertref08_Code.mono : ∀ a0 a1 a2 a3 k, LeO (regcertref08_Code.f k a0 a1 a2 a3) (regcertref08_Code.f (k + 1) a0 a1 a2 a3) := by
  intro a0 a1 a2 a3 k
  have ih0 := regcertref08_Code.mono_l k
  unfold regcertref08_Code.f
  repeat' first
      | (with_reducible exact ih0 _ _ _ _ _ _)
      | (with_reducible exact LeO.refl _)
      | (with_reducible exact LeO.none _)
      | (with_reducible refine LeO.ite ?_ ?_)
      | (with_reducible refine LeO.bind ?_ (fun _ => ?_))
      | exact ih0 _ _ _ _ _ _
      | exact LeO.none _
      | refine LeO.ite ?_ ?_
      | refine LeO.bind ?_ (fun _ => ?_)
set_option maxHeartbeats 8000000 in
set_option maxRecDepth 100000 in
theorem regcertref08_Code.calls (k : Nat) (a0_0 : Int) (a0_1 : Int) (a0_2 : Int) (A0_3 : Option Addr) (c0_3 : Nat) (l0_3 : List (S74)) (r : Int) (w : World) (hr0_3 : Kd.C k74 w A0_3 l0_3.length l0_3) (hc0_3 : l0_3.length ≤ c0_3) (h : regcertref08_Code.f k a0_0 a0_1 a0_2 l0_3 = some r) :
    Calls Try.prog 41 #[.agg #[.int .i64 a0_0, .int .i64 a0_1, .int .i64 a0_2, .slice A0_3 l0_3.length c0_3]] w fun e w' => e = .returned (.int .i64 r) ∧ Below w.heap.size w w' := by
  have hu64 := Try.underlying64
  have HR0_3 := Aside0.mk hr0_3
  have HC0_3 := Aside0.mk hc0_3
  clear hr0_3 hc0_3
  have HB := Aside0.mk (Below.refl w.heap.size w)
  have H : (regcertref08_Code.l0 k 0 0 a0_0 a0_1 a0_2 l0_3) = some r := h
  clear h
  have H' := Aside0.mk H
  clear H
  go_enter Try.func41, Try.ntmps41
  go_wp2_with (first | ((with_reducible refine gate_dst (N := 1) rfl ?_); refine box_event ?hg (N := 1) ?hd (cs := #[.int .i64 a0_0, .int .i64 a0_1, .int .i64 a0_2, .slice A0_3 l0_3.length c0_3]) (t := 64) ?hr ?_; (case hd => rfl); (case hg => rfl); (case hr => first | (go_simp; done) | (go_simp; rfl)); intro gb192 hg w2 hbox hb; have n0_ := Aside0.mk (below_step (by repeat (first | (with_reducible first | exact HB.out | apply below_alloc | apply pw_below_drewN | apply below_drew1) | exact HB.out)) hb); have n1_ := Aside0.mk (hbox); have n2_ := Aside0.mk ((by rw [hg]; exact (below_size (by repeat (first | (with_reducible first | exact HB.out | apply below_alloc | apply pw_below_drewN | apply below_drew1) | exact HB.out))) : w.heap.size ≤ gb192)); have n3_ := Aside0.mk ((by rw [hg]; exact (below_size (by repeat (first | (with_reducible first | exact HB.out | apply below_alloc | apply pw_below_drewN | apply below_drew1) | exact HB.out))) : w.heap.size ≤ gb192)); clear HB; have HB := n0_; have BK192 := n1_; have GW192 := n2_; have GE192 := n3_; clear n0_ n1_ n2_ n3_; clear hb hbox hg))
  go_loopg [3, 4] k (fun kq v3 v4 w' => ∃ (x3_1 : Int) (x4_1 : Int), v3 = .int .i64 x3_1 ∧ v4 = .int .i64 x4_1 ∧ Aside0 (regcertref08_Code.l0 kq x3_1 x4_1 a0_0 a0_1 a0_2 l0_3 = some r) ∧ Aside0 (kq ≤ k) ∧ Aside0 (w'.heap[gb192]? = some (.cells #[.int .i64 a0_0, .int .i64 a0_1, .int .i64 a0_2, (.slice A0_3 l0_3.length c0_3)] 64 (0, 0))) ∧ Aside0 (Below w.heap.size w w'))
  case atStart => exact ⟨(0), (0), (by first | rfl | (simp; done) | (simp [*]; done)), (by first | rfl | (simp; done) | (simp [*]; done)), H', ⟨Nat.le_refl _⟩, ⟨by (with_reducible repeat (first | refine blk_drewN ?_ _ | refine blk_drew ?_ | refine blk_alloc ?_ _)); exact BK192.out⟩, ⟨by repeat (first | (with_reducible first | exact HB.out | apply below_alloc | apply pw_below_drewN | apply below_drew1 | refine below_set ?_ GE192.out) | exact HB.out)⟩⟩
  case round =>
    clear H'
    try clear p2
    obtain ⟨x3_1, x4_1, rfl, rfl, HA, HK1, BK192, HB⟩ := hrel
    cases gk with
    | zero => exact absurd HA.out (by simp [regcertref08_Code.l0])
    | succ k1 =>
      have H := HA.out
      clear HA
      simp only [regcertref08_Code.l0] at H
      by_cases c3 : x4_1 < (l0_3.length : Int)
      · rw [if_pos c3] at H
        have c3b0 : decide (x4_1 < (l0_3.length : Int)) = true := decide_eq_true c3
        clear c3
        by_cases c4 : 0 ≤ x4_1
        · rw [if_pos c4] at H
          have c4b0 : decide (0 ≤ x4_1) = true := decide_eq_true c4
          clear c4
          have H' := Aside0.mk H
          clear H
          have hcz5_0 : wr.cell? ⟨gb192, 0, none⟩ = some (.int .i64 a0_0) := (blk_cell BK192.out 0).trans rfl
          have hcz5_1 : wr.cell? ⟨gb192, 1, none⟩ = some (.int .i64 a0_1) := (blk_cell BK192.out 1).trans rfl
          have hcz5_2 : wr.cell? ⟨gb192, 2, none⟩ = some (.int .i64 a0_2) := (blk_cell BK192.out 2).trans rfl
          have hcz5_3 : wr.cell? ⟨gb192, 3, none⟩ = some (.slice A0_3 l0_3.length c0_3) := (blk_cell BK192.out 3).trans rfl
          have hfz5_0 := blk_frozen BK192.out 0
          have hfz5_1 := blk_frozen BK192.out 1
          have hfz5_2 := blk_frozen BK192.out 2
          have hfz5_3 := blk_frozen BK192.out 3
          have p193 : 0 ≤ (x4_1 : Int) := of_decide_eq_true (by first | (with_reducible assumption) | assumption)
          have q193 : x4_1 < (l0_3.length : Int) := of_decide_eq_true (by first | (with_reducible assumption) | assumption)
          obtain ⟨ad193, A193_0, c193_0, e193, hx193_0, hx193_1, hx193_2, hx193_3, hx193_4, hl193_0, hi193_0⟩ := at_T74 HR0_3.out x4_1 p193 q193
          cases e193
          replace hx193_0 := (HB.out.cell (World.block_lt_of_cell? w _ hx193_0)).trans hx193_0
          replace hx193_1 := (HB.out.cell (World.block_lt_of_cell? w _ hx193_1)).trans hx193_1
          replace hx193_2 := (HB.out.cell (World.block_lt_of_cell? w _ hx193_2)).trans hx193_2
          replace hx193_3 := (HB.out.cell (World.block_lt_of_cell? w _ hx193_3)).trans hx193_3
          replace hx193_4 := (HB.out.cell (World.block_lt_of_cell? w _ hx193_4)).trans hx193_4
          have HR193_0 := Aside0.mk hi193_0
          have HC193_0 := Aside0.mk hl193_0
          clear hi193_0 hl193_0
          replace p193 := eq_true p193
          replace q193 := eq_true q193
          go_wp2
          go_roundg k1
          case measure => have := HK1.out; omega
          case rel => exact ⟨(wrap64 (x3_1 + (((rd_T74 l0_3 x4_1).f0).length : Int))), (wrap64 (x4_1 + 1)), (by first | rfl | (simp; done) | (simp [*]; done)), (by first | rfl | (simp; done) | (simp [*]; done)), H', ⟨by have := HK1.out; omega⟩, ⟨by (with_reducible repeat (first | refine blk_drewN ?_ _ | refine blk_drew ?_ | refine blk_alloc ?_ _)); exact BK192.out⟩, ⟨by repeat (first | (with_reducible first | exact HB.out | apply below_alloc | apply pw_below_drewN | apply below_drew1 | refine below_set ?_ GE192.out) | exact HB.out)⟩⟩
        · rw [if_neg c4] at H
          exact absurd H (by simp)
      · rw [if_neg c3] at H
        have c3b0 : decide (x4_1 < (l0_3.length : Int)) = false := decide_eq_false c3
        clear c3
        obtain rfl := Option.some.inj H
        have hcz6_0 : wr.cell? ⟨gb192, 0, none⟩ = some (.int .i64 a0_0) := (blk_cell BK192.out 0).trans rfl
        have hcz6_1 : wr.cell? ⟨gb192, 1, none⟩ = some (.int .i64 a0_1) := (blk_cell BK192.out 1).trans rfl
        have hcz6_2 : wr.cell? ⟨gb192, 2, none⟩ = some (.int .i64 a0_2) := (blk_cell BK192.out 2).trans rfl
        have hcz6_3 : wr.cell? ⟨gb192, 3, none⟩ = some (.slice A0_3 l0_3.length c0_3) := (blk_cell BK192.out 3).trans rfl
        have hfz6_0 := blk_frozen BK192.out 0
        have hfz6_1 := blk_frozen BK192.out 1
        have hfz6_2 := blk_frozen BK192.out 2
        have hfz6_3 := blk_frozen BK192.out 3
        go_wp2
        go_ret
        exact ⟨by first | rfl | (simp [errW_none, errW_some] <;> rfl) | (simp [*, errW_none, errW_some] <;> rfl), by repeat (first | (with_reducible first | exact HB.out | apply below_alloc | apply pw_below_drewN | apply below_drew1 | refine below_set ?_ GE192.out) | exact HB.out)⟩
mutual
def regcertref08_Few.j0 : Nat → Bool → Int → Int → Int → List (S74) → Option (Bool)
  | 0, _, _, _, _, _ => none
  | k + 1, x17, x195000, x195001, x195002, x195003 => if x17 = true then (some false) else (regcertref08_Few.l0 k 0 x195000 x195001 x195002 x195003)
def regcertref08_Few.l0 : Nat → Int → Int → Int → Int → List (S74) → Option (Bool)
  | 0, _, _, _, _, _ => none
  | k + 1, x3, x195000, x195001, x195002, x195003 => if x3 < (x195003.length : Int) then (if 0 ≤ x3 then (if (((rd_T74 x195003 x3).f0).length : Int) > 300 then (some false) else (regcertref08_Few.l0 k (wrap64 (x3 + 1)) x195000 x195001 x195002 x195003)) else (none)) else ((regcertref08_Code.f k x195000 x195001 x195002 x195003).bind fun t196 => (some (decide (t196 ≤ 900))))
end
def regcertref08_Few.f (k : Nat) (a0_0 : Int) (a0_1 : Int) (a0_2 : Int) (l0_3 : List (S74)) : Option (Bool) := if (l0_3.length : Int) > 40 then (regcertref08_Few.j0 k true a0_0 a0_1 a0_2 l0_3) else (if a0_1 > 60 then (regcertref08_Few.j0 k true a0_0 a0_1 a0_2 l0_3) else (regcertref08_Few.j0 k (decide (a0_2 > 60)) a0_0 a0_1 a0_2 l0_3))
theorem regcertref08_Few.mono_l : ∀ k, (∀ y0 y1 y2 y3 y4, LeO (regcertref08_Few.j0 k y0 y1 y2 y3 y4) (regcertref08_Few.j0 (k + 1) y0 y1 y2 y3 y4)) ∧ (∀ y0 y1 y2 y3 y4, LeO (regcertref08_Few.l0 k y0 y1 y2 y3 y4) (regcertref08_Few.l0 (k + 1) y0 y1 y2 y3 y4))
  | 0 => ⟨fun _ _ _ _ _ r h => by simp [regcertref08_Few.j0] at h, fun _ _ _ _ _ r h => by simp [regcertref08_Few.l0] at h⟩
  | k + 1 => by
    obtain ⟨ih0, ih1⟩ := regcertref08_Few.mono_l k
    refine ⟨?_, ?_⟩
    · intro y0 y1 y2 y3 y4
      unfold regcertref08_Few.j0
      repeat' first
      | (with_reducible exact ih0 _ _ _ _ _)
      | (with_reducible exact ih1 _ _ _ _ _)
      | (with_reducible exact regcertref08_Code.mono _ _ _ _ _)
      | (with_reducible exact LeO.refl _)
      | (with_reducible exact LeO.none _)
      | (with_reducible refine LeO.ite ?_ ?_)
      | (with_reducible refine LeO.bind ?_ (fun _ => ?_))
      | exact ih0 _ _ _ _ _
      | exact ih1 _ _ _ _ _
      | exact regcertref08_Code.mono _ _ _ _ _
      | exact LeO.none _
      | refine LeO.ite ?_ ?_
      | refine LeO.bind ?_ (fun _ => ?_)
    · intro y0 y1 y2 y3 y4
      unfold regcertref08_Few.l0
      repeat' first
      | (with_reducible exact ih0 _ _ _ _ _)
      | (with_reducible exact ih1 _ _ _ _ _)
      | (with_reducible exact regcertref08_Code.mono _ _ _ _ _)
      | (with_reducible exact LeO.refl _)
      | (with_reducible exact LeO.none _)
      | (with_reducible refine LeO.ite ?_ ?_)
      | (with_reducible refine LeO.bind ?_ (fun _ => ?_))
      | exact ih0 _ _ _ _ _
      | exact ih1 _ _ _ _ _
      | exact regcertref08_Code.mono _ _ _ _ _
      | exact LeO.none _
      | refine LeO.ite ?_ ?_
      | refine LeO.bind ?_ (fun _ => ?_)
theorem regcertref08_Few.mono : ∀ a0 a1 a2 a3 k, LeO (regcertref08_Few.f k a0 a1 a2 a3) (regcertref08_Few.f (k + 1) a0 a1 a2 a3) := by
  intro a0 a1 a2 a3 k
  obtain ⟨ih0, ih1⟩ := regcertref08_Few.mono_l k
  unfold regcertref08_Few.f
  repeat' first
      | (with_reducible exact ih0 _ _ _ _ _)
      | (with_reducible exact ih1 _ _ _ _ _)
      | (with_reducible exact regcertref08_Code.mono _ _ _ _ _)
      | (with_reducible exact LeO.refl _)
      | (with_reducible exact LeO.none _)
      | (with_reducible refine LeO.ite ?_ ?_)
      | (with_reducible refine LeO.bind ?_ (fun _ => ?_))
      | exact ih0 _ _ _ _ _
      | exact ih1 _ _ _ _ _
      | exact regcertref08_Code.mono _ _ _ _ _
      | exact LeO.none _
      | refine LeO.ite ?_ ?_
      | refine LeO.bind ?_ (fun _ => ?_)
set_option maxHeartbeats 8000000 in
set_option maxRecDepth 100000 in
theorem regcertref08_Few.calls (k : Nat) (a0_0 : Int) (a0_1 : Int) (a0_2 : Int) (A0_3 : Option Addr) (c0_3 : Nat) (l0_3 : List (S74)) (r : Bool) (w : World) (hr0_3 : Kd.C k74 w A0_3 l0_3.length l0_3) (hc0_3 : l0_3.length ≤ c0_3) (h : regcertref08_Few.f k a0_0 a0_1 a0_2 l0_3 = some r) :
    Calls Try.prog 33 #[.agg #[.int .i64 a0_0, .int .i64 a0_1, .int .i64 a0_2, .slice A0_3 l0_3.length c0_3]] w fun e w' => e = .returned (.bool r) ∧ Below w.heap.size w w' := by
  have hu64 := Try.underlying64
  have HR0_3 := Aside0.mk hr0_3
  have HC0_3 := Aside0.mk hc0_3
  clear hr0_3 hc0_3
  have HB := Aside0.mk (Below.refl w.heap.size w)
  have H : (if (l0_3.length : Int) > 40 then (regcertref08_Few.j0 k true a0_0 a0_1 a0_2 l0_3) else (if a0_1 > 60 then (regcertref08_Few.j0 k true a0_0 a0_1 a0_2 l0_3) else (regcertref08_Few.j0 k (decide (a0_2 > 60)) a0_0 a0_1 a0_2 l0_3))) = some r := h
  clear h
  have HC2 := Aside0.mk H
  clear H
  go_enter Try.func33, Try.ntmps33
  go_upto_region 1 with (first | ((with_reducible refine gate_dst (N := 1) rfl ?_); refine box_event ?hg (N := 1) ?hd (cs := #[.int .i64 a0_0, .int .i64 a0_1, .int .i64 a0_2, .slice A0_3 l0_3.length c0_3]) (t := 64) ?hr ?_; (case hd => rfl); (case hg => rfl); (case hr => first | (go_simp; done) | (go_simp; rfl)); intro gb194 hg w3 hbox hb; have n0_ := Aside0.mk (below_step (by repeat (first | (with_reducible first | exact HB.out | apply below_alloc | apply pw_below_drewN | apply below_drew1) | exact HB.out)) hb); have n1_ := Aside0.mk (hbox); have n2_ := Aside0.mk ((by rw [hg]; exact (below_size (by repeat (first | (with_reducible first | exact HB.out | apply below_alloc | apply pw_below_drewN | apply below_drew1) | exact HB.out))) : w.heap.size ≤ gb194)); have n3_ := Aside0.mk ((by rw [hg]; exact (below_size (by repeat (first | (with_reducible first | exact HB.out | apply below_alloc | apply pw_below_drewN | apply below_drew1) | exact HB.out))) : w.heap.size ≤ gb194)); clear HB; have HB := n0_; have BK194 := n1_; have GW194 := n2_; have GE194 := n3_; clear n0_ n1_ n2_ n3_; clear hb hbox hg))
  (try simp only [Act.put, List.setIfInBounds_toArray, List.set_cons_zero, List.set_cons_succ])
  go_cut [17] (fun v17 wc => ∃ (kq : Nat) (x17_1 : Bool), v17 = .bool x17_1 ∧ Aside0 (regcertref08_Few.j0 kq x17_1 a0_0 a0_1 a0_2 l0_3 = some r) ∧ Aside0 (kq ≤ k) ∧ Aside0 (wc.heap[gb194]? = some (.cells #[.int .i64 a0_0, .int .i64 a0_1, .int .i64 a0_2, (.slice A0_3 l0_3.length c0_3)] 64 (0, 0))) ∧ Aside0 (Below w.heap.size w wc))
  case first =>
    have H := HC2.out
    clear HC2
    by_cases c4 : (l0_3.length : Int) > 40
    · rw [if_pos c4] at H
      have c4b0 : decide (40 < (l0_3.length : Int)) = true := decide_eq_true c4
      have c4b1 : decide (40 < l0_3.length) = true := decide_eq_true (by omega)
      clear c4
      (first | rw [c4b0] | (simp only [i64_w, i32_w]; rw [c4b0]) | skip)
      have H' := Aside0.mk H
      clear H
      have hcz5_0 : w3.cell? ⟨gb194, 0, none⟩ = some (.int .i64 a0_0) := (blk_cell BK194.out 0).trans rfl
      have hcz5_1 : w3.cell? ⟨gb194, 1, none⟩ = some (.int .i64 a0_1) := (blk_cell BK194.out 1).trans rfl
      have hcz5_2 : w3.cell? ⟨gb194, 2, none⟩ = some (.int .i64 a0_2) := (blk_cell BK194.out 2).trans rfl
      have hcz5_3 : w3.cell? ⟨gb194, 3, none⟩ = some (.slice A0_3 l0_3.length c0_3) := (blk_cell BK194.out 3).trans rfl
      have hfz5_0 := blk_frozen BK194.out 0
      have hfz5_1 := blk_frozen BK194.out 1
      have hfz5_2 := blk_frozen BK194.out 2
      have hfz5_3 := blk_frozen BK194.out 3
      go_wp2
      go_meet
      case rel => exact ⟨_, (true), (by first | rfl | (simp; done) | (simp [*]; done)), H', ⟨by first | omega | exact Nat.le_refl _⟩, ⟨by (with_reducible repeat (first | refine blk_drewN ?_ _ | refine blk_drew ?_ | refine blk_alloc ?_ _)); exact BK194.out⟩, ⟨by repeat (first | (with_reducible first | exact HB.out | apply below_alloc | apply pw_below_drewN | apply below_drew1 | refine below_set ?_ GE194.out) | exact HB.out)⟩⟩
    · rw [if_neg c4] at H
      have c4b0 : decide (40 < (l0_3.length : Int)) = false := decide_eq_false c4
      have c4b1 : decide (40 < l0_3.length) = false := decide_eq_false (by omega)
      clear c4
      (first | rw [c4b0] | (simp only [i64_w, i32_w]; rw [c4b0]) | skip)
      by_cases c6 : a0_1 > 60
      · rw [if_pos c6] at H
        have c6b0 : decide (60 < a0_1) = true := decide_eq_true c6
        clear c6
        have H' := Aside0.mk H
        clear H
        have hcz7_0 : w3.cell? ⟨gb194, 0, none⟩ = some (.int .i64 a0_0) := (blk_cell BK194.out 0).trans rfl
        have hcz7_1 : w3.cell? ⟨gb194, 1, none⟩ = some (.int .i64 a0_1) := (blk_cell BK194.out 1).trans rfl
        have hcz7_2 : w3.cell? ⟨gb194, 2, none⟩ = some (.int .i64 a0_2) := (blk_cell BK194.out 2).trans rfl
        have hcz7_3 : w3.cell? ⟨gb194, 3, none⟩ = some (.slice A0_3 l0_3.length c0_3) := (blk_cell BK194.out 3).trans rfl
        have hfz7_0 := blk_frozen BK194.out 0
        have hfz7_1 := blk_frozen BK194.out 1
        have hfz7_2 := blk_frozen BK194.out 2
        have hfz7_3 := blk_frozen BK194.out 3
        go_wp2
        go_meet
        case rel => exact ⟨_, (true), (by first | rfl | (simp; done) | (simp [*]; done)), H', ⟨by first | omega | exact Nat.le_refl _⟩, ⟨by (with_reducible repeat (first | refine blk_drewN ?_ _ | refine blk_drew ?_ | refine blk_alloc ?_ _)); exact BK194.out⟩, ⟨by repeat (first | (with_reducible first | exact HB.out | apply below_alloc | apply pw_below_drewN | apply below_drew1 | refine below_set ?_ GE194.out) | exact HB.out)⟩⟩
      · rw [if_neg c6] at H
        have c6b0 : decide (60 < a0_1) = false := decide_eq_false c6
        clear c6
        have H' := Aside0.mk H
        clear H
        have hcz8_0 : w3.cell? ⟨gb194, 0, none⟩ = some (.int .i64 a0_0) := (blk_cell BK194.out 0).trans rfl
        have hcz8_1 : w3.cell? ⟨gb194, 1, none⟩ = some (.int .i64 a0_1) := (blk_cell BK194.out 1).trans rfl
        have hcz8_2 : w3.cell? ⟨gb194, 2, none⟩ = some (.int .i64 a0_2) := (blk_cell BK194.out 2).trans rfl
        have hcz8_3 : w3.cell? ⟨gb194, 3, none⟩ = some (.slice A0_3 l0_3.length c0_3) := (blk_cell BK194.out 3).trans rfl
        have hfz8_0 := blk_frozen BK194.out 0
        have hfz8_1 := blk_frozen BK194.out 1
        have hfz8_2 := blk_frozen BK194.out 2
        have hfz8_3 := blk_frozen BK194.out 3
        go_wp2
        go_meet
        case rel => exact ⟨_, (decide (a0_2 > 60)), (by first | rfl | (simp; done) | (simp [*]; done)), H', ⟨by first | omega | exact Nat.le_refl _⟩, ⟨by (with_reducible repeat (first | refine blk_drewN ?_ _ | refine blk_drew ?_ | refine blk_alloc ?_ _)); exact BK194.out⟩, ⟨by repeat (first | (with_reducible first | exact HB.out | apply below_alloc | apply pw_below_drewN | apply below_drew1 | refine below_set ?_ GE194.out) | exact HB.out)⟩⟩
  case rest =>
    clear HC2
    try clear p2
    try clear c3
    try clear c4
    try clear c4b0
    try clear c4b1
    try clear c6
    try clear c6b0
    try clear hcz5_0
    try clear hcz5_1
    try clear hcz5_2
    try clear hcz5_3
    try clear hcz7_0
    try clear hcz7_1
    try clear hcz7_2
    try clear hcz7_3
    try clear hcz8_0
    try clear hcz8_1
    try clear hcz8_2
    try clear hcz8_3
    try clear hfz5_0
    try clear hfz5_1
    try clear hfz5_2
    try clear hfz5_3
    try clear hfz7_0
    try clear hfz7_1
    try clear hfz7_2
    try clear hfz7_3
    try clear hfz8_0
    try clear hfz8_1
    try clear hfz8_2
    try clear hfz8_3
    obtain ⟨kq, x17_1, rfl, HA, HJ1, BK194, HB⟩ := hcut
    cases kq with
    | zero => exact absurd HA.out (by simp [regcertref08_Few.j0])
    | succ kj1 =>
      have H := HA.out
      clear HA
      simp only [regcertref08_Few.j0] at H
      by_cases c9 : x17_1 = true
      · subst c9
        have H1 : (some false) = some r := by rw [if_pos rfl] at H; exact H
        clear H
        have H := H1
        clear H1
        obtain rfl := Option.some.inj H
        go_wp2
        go_ret
        exact ⟨by first | rfl | (simp [errW_none, errW_some] <;> rfl) | (simp [*, errW_none, errW_some] <;> rfl), by repeat (first | (with_reducible first | exact HB.out | apply below_alloc | apply pw_below_drewN | apply below_drew1 | refine below_set ?_ GE194.out) | exact HB.out)⟩
      · replace c9 := Bool.eq_false_iff.mpr c9
        subst c9
        have H1 : (regcertref08_Few.l0 kj1 0 a0_0 a0_1 a0_2 l0_3) = some r := by rw [if_neg (show ¬ (false = true) by decide)] at H; exact H
        clear H
        have H := H1
        clear H1
        have H' := Aside0.mk H
        clear H
        go_wp2
        go_loopg [3] kj1 (fun kq v3 w' => ∃ (x3_2 : Int), v3 = .int .i64 x3_2 ∧ Aside0 (regcertref08_Few.l0 kq x3_2 a0_0 a0_1 a0_2 l0_3 = some r) ∧ Aside0 (kq ≤ kj1) ∧ Aside0 (w'.heap[gb194]? = some (.cells #[.int .i64 a0_0, .int .i64 a0_1, .int .i64 a0_2, (.slice A0_3 l0_3.length c0_3)] 64 (0, 0))) ∧ Aside0 (Below w.heap.size w w'))
        case atStart => exact ⟨(0), (by first | rfl | (simp; done) | (simp [*]; done)), H', ⟨Nat.le_refl _⟩, ⟨by (with_reducible repeat (first | refine blk_drewN ?_ _ | refine blk_drew ?_ | refine blk_alloc ?_ _)); exact BK194.out⟩, ⟨by repeat (first | (with_reducible first | exact HB.out | apply below_alloc | apply pw_below_drewN | apply below_drew1 | refine below_set ?_ GE194.out) | exact HB.out)⟩⟩
        case round =>
          clear H'
          try clear p2
          try clear c3
          try clear c4
          try clear c4b0
          try clear c4b1
          try clear c6
          try clear c6b0
          try clear c9
          try clear hcz5_0
          try clear hcz5_1
          try clear hcz5_2
          try clear hcz5_3
          try clear hcz7_0
          try clear hcz7_1
          try clear hcz7_2
          try clear hcz7_3
          try clear hcz8_0
          try clear hcz8_1
          try clear hcz8_2
          try clear hcz8_3
          try clear hfz5_0
          try clear hfz5_1
          try clear hfz5_2
          try clear hfz5_3
          try clear hfz7_0
          try clear hfz7_1
          try clear hfz7_2
          try clear hfz7_3
          try clear hfz8_0
          try clear hfz8_1
          try clear hfz8_2
          try clear hfz8_3
          try clear p2
          obtain ⟨x3_2, rfl, HA, HK2, BK194, HB⟩ := hrel
          cases gk with
          | zero => exact absurd HA.out (by simp [regcertref08_Few.l0])
          | succ k2 =>
            have H := HA.out
            clear HA
            simp only [regcertref08_Few.l0] at H
            by_cases c10 : x3_2 < (l0_3.length : Int)
            · rw [if_pos c10] at H
              have c10b0 : decide (x3_2 < (l0_3.length : Int)) = true := decide_eq_true c10
              clear c10
              by_cases c11 : 0 ≤ x3_2
              · rw [if_pos c11] at H
                have c11b0 : decide (0 ≤ x3_2) = true := decide_eq_true c11
                clear c11
                by_cases c12 : (((rd_T74 l0_3 x3_2).f0).length : Int) > 300
                · rw [if_pos c12] at H
                  have c12b0 : decide (300 < (((rd_T74 l0_3 x3_2).f0).length : Int)) = true := decide_eq_true c12
                  have c12b1 : decide (300 < ((rd_T74 l0_3 x3_2).f0).length) = true := decide_eq_true (by omega)
                  clear c12
                  obtain rfl := Option.some.inj H
                  have hcz13_0 : wr.cell? ⟨gb194, 0, none⟩ = some (.int .i64 a0_0) := (blk_cell BK194.out 0).trans rfl
                  have hcz13_1 : wr.cell? ⟨gb194, 1, none⟩ = some (.int .i64 a0_1) := (blk_cell BK194.out 1).trans rfl
                  have hcz13_2 : wr.cell? ⟨gb194, 2, none⟩ = some (.int .i64 a0_2) := (blk_cell BK194.out 2).trans rfl
                  have hcz13_3 : wr.cell? ⟨gb194, 3, none⟩ = some (.slice A0_3 l0_3.length c0_3) := (blk_cell BK194.out 3).trans rfl
                  have hfz13_0 := blk_frozen BK194.out 0
                  have hfz13_1 := blk_frozen BK194.out 1
                  have hfz13_2 := blk_frozen BK194.out 2
                  have hfz13_3 := blk_frozen BK194.out 3
                  have p195 : 0 ≤ (x3_2 : Int) := of_decide_eq_true (by first | (with_reducible assumption) | assumption)
                  have q195 : x3_2 < (l0_3.length : Int) := of_decide_eq_true (by first | (with_reducible assumption) | assumption)
                  obtain ⟨ad195, A195_0, c195_0, e195, hx195_0, hx195_1, hx195_2, hx195_3, hx195_4, hl195_0, hi195_0⟩ := at_T74 HR0_3.out x3_2 p195 q195
                  cases e195
                  replace hx195_0 := (HB.out.cell (World.block_lt_of_cell? w _ hx195_0)).trans hx195_0
                  replace hx195_1 := (HB.out.cell (World.block_lt_of_cell? w _ hx195_1)).trans hx195_1
                  replace hx195_2 := (HB.out.cell (World.block_lt_of_cell? w _ hx195_2)).trans hx195_2
                  replace hx195_3 := (HB.out.cell (World.block_lt_of_cell? w _ hx195_3)).trans hx195_3
                  replace hx195_4 := (HB.out.cell (World.block_lt_of_cell? w _ hx195_4)).trans hx195_4
                  have HR195_0 := Aside0.mk hi195_0
                  have HC195_0 := Aside0.mk hl195_0
                  clear hi195_0 hl195_0
                  replace p195 := eq_true p195
                  replace q195 := eq_true q195
                  go_wp2
                  go_ret
                  exact ⟨by first | rfl | (simp [errW_none, errW_some] <;> rfl) | (simp [*, errW_none, errW_some] <;> rfl), by repeat (first | (with_reducible first | exact HB.out | apply below_alloc | apply pw_below_drewN | apply below_drew1 | refine below_set ?_ GE194.out) | exact HB.out)⟩
                · rw [if_neg c12] at H
                  have c12b0 : decide (300 < (((rd_T74 l0_3 x3_2).f0).length : Int)) = false := decide_eq_false c12
                  have c12b1 : decide (300 < ((rd_T74 l0_3 x3_2).f0).length) = false := decide_eq_false (by omega)
                  clear c12
                  have H' := Aside0.mk H
                  clear H
                  have hcz14_0 : wr.cell? ⟨gb194, 0, none⟩ = some (.int .i64 a0_0) := (blk_cell BK194.out 0).trans rfl
                  have hcz14_1 : wr.cell? ⟨gb194, 1, none⟩ = some (.int .i64 a0_1) := (blk_cell BK194.out 1).trans rfl
                  have hcz14_2 : wr.cell? ⟨gb194, 2, none⟩ = some (.int .i64 a0_2) := (blk_cell BK194.out 2).trans rfl
                  have hcz14_3 : wr.cell? ⟨gb194, 3, none⟩ = some (.slice A0_3 l0_3.length c0_3) := (blk_cell BK194.out 3).trans rfl
                  have hfz14_0 := blk_frozen BK194.out 0
                  have hfz14_1 := blk_frozen BK194.out 1
                  have hfz14_2 := blk_frozen BK194.out 2
                  have hfz14_3 := blk_frozen BK194.out 3
                  have p195 : 0 ≤ (x3_2 : Int) := of_decide_eq_true (by first | (with_reducible assumption) | assumption)
                  have q195 : x3_2 < (l0_3.length : Int) := of_decide_eq_true (by first | (with_reducible assumption) | assumption)
                  obtain ⟨ad195, A195_0, c195_0, e195, hx195_0, hx195_1, hx195_2, hx195_3, hx195_4, hl195_0, hi195_0⟩ := at_T74 HR0_3.out x3_2 p195 q195
                  cases e195
                  replace hx195_0 := (HB.out.cell (World.block_lt_of_cell? w _ hx195_0)).trans hx195_0
                  replace hx195_1 := (HB.out.cell (World.block_lt_of_cell? w _ hx195_1)).trans hx195_1
                  replace hx195_2 := (HB.out.cell (World.block_lt_of_cell? w _ hx195_2)).trans hx195_2
                  replace hx195_3 := (HB.out.cell (World.block_lt_of_cell? w _ hx195_3)).trans hx195_3
                  replace hx195_4 := (HB.out.cell (World.block_lt_of_cell? w _ hx195_4)).trans hx195_4
                  have HR195_0 := Aside0.mk hi195_0
                  have HC195_0 := Aside0.mk hl195_0
                  clear hi195_0 hl195_0
                  replace p195 := eq_true p195
                  replace q195 := eq_true q195
                  go_wp2
                  go_roundg k2
                  case measure => have := HJ1.out; have := HK2.out; omega
                  case rel => exact ⟨(wrap64 (x3_2 + 1)), (by first | rfl | (simp; done) | (simp [*]; done)), H', ⟨by have := HJ1.out; have := HK2.out; omega⟩, ⟨by (with_reducible repeat (first | refine blk_drewN ?_ _ | refine blk_drew ?_ | refine blk_alloc ?_ _)); exact BK194.out⟩, ⟨by repeat (first | (with_reducible first | exact HB.out | apply below_alloc | apply pw_below_drewN | apply below_drew1 | refine below_set ?_ GE194.out) | exact HB.out)⟩⟩
              · rw [if_neg c11] at H
                exact absurd H (by simp)
            · rw [if_neg c10] at H
              have c10b0 : decide (x3_2 < (l0_3.length : Int)) = false := decide_eq_false c10
              clear c10
              replace H := Option.bind_eq_some_iff.mp H
              obtain ⟨t196, A150, H⟩ := H
              replace H : (some (decide (t196 ≤ 900))) = some r := H
              have A15 := Aside0.mk A150
              clear A150
              obtain rfl := Option.some.inj H
              have hcz16_0 : wr.cell? ⟨gb194, 0, none⟩ = some (.int .i64 a0_0) := (blk_cell BK194.out 0).trans rfl
              have hcz16_1 : wr.cell? ⟨gb194, 1, none⟩ = some (.int .i64 a0_1) := (blk_cell BK194.out 1).trans rfl
              have hcz16_2 : wr.cell? ⟨gb194, 2, none⟩ = some (.int .i64 a0_2) := (blk_cell BK194.out 2).trans rfl
              have hcz16_3 : wr.cell? ⟨gb194, 3, none⟩ = some (.slice A0_3 l0_3.length c0_3) := (blk_cell BK194.out 3).trans rfl
              have hfz16_0 := blk_frozen BK194.out 0
              have hfz16_1 := blk_frozen BK194.out 1
              have hfz16_2 := blk_frozen BK194.out 2
              have hfz16_3 := blk_frozen BK194.out 3
              go_wp2_with (first | ((with_reducible refine gate_callee (f := 41) rfl ?_); refine goesL_ (some 34) rfl rfl Try.func41 (by kernel_rfl) rfl #[.agg #[.int .i64 a0_0, .int .i64 a0_1, .int .i64 a0_2, .slice A0_3 l0_3.length c0_3]] rfl (by (try simp only [List.map_toArray, List.map_cons, List.map_nil]); first | done | rfl | (simp only [List.length_drop, List.length_take]; rfl)) ?_; (with_reducible refine (regcertref08_Code.calls k2 a0_0 a0_1 a0_2 _ _ l0_3 t196 _ ?side1 ?side2 A15.out).mono ?_); (case side1 => repeat (first | exact (Kd.C_below HR0_3.out HB.out) | (with_reducible refine Kd.C_alloc ?_ _) | (with_reducible refine Kd.C_drewN ?_ _) | (with_reducible refine Kd.C_drew ?_))); (case side2 => exact HC0_3.out); rintro e w17 ⟨rfl, hb⟩; refine ⟨_, rfl, ?_⟩; have n0_ := Aside0.mk (blk_below (g := gb194) (o := .cells #[.int .i64 a0_0, .int .i64 a0_1, .int .i64 a0_2, .slice A0_3 l0_3.length c0_3] 64 (0, 0)) (by (with_reducible repeat (first | refine blk_drewN ?_ _ | refine blk_drew ?_ | refine blk_alloc ?_ _)); exact BK194.out) hb); have n1_ := Aside0.mk (below_step (by repeat (first | (with_reducible first | exact HB.out | apply below_alloc | apply pw_below_drewN | apply below_drew1 | refine below_set ?_ GE194.out) | exact HB.out)) hb); clear BK194; clear HB; have BK194 := n0_; have HB := n1_; clear n0_ n1_; (try clear hb); (try clear hb2); (try clear hk); (try clear hi)))
              go_ret
              exact ⟨by first | rfl | (simp [errW_none, errW_some] <;> rfl) | (simp [*, errW_none, errW_some] <;> rfl), by repeat (first | (with_reducible first | exact HB.out | apply below_alloc | apply pw_below_drewN | apply below_drew1 | refine below_set ?_ GE194.out) | exact HB.out)⟩
def regcertref07_in.f (a0 : Int) (a1 : Int) : Option (Bool) := if a0 ≥ 0 then (some (decide (a0 < a1))) else (some false)
set_option maxHeartbeats 8000000 in
set_option maxRecDepth 100000 in
theorem regcertref07_in.calls (a0 : Int) (a1 : Int) (r : Bool) (w : World) (h : regcertref07_in.f a0 a1 = some r) :
    Calls Try.prog 61 #[.int .i64 a0, .int .i64 a1] w fun e w' => e = .returned (.bool r) ∧ Drawn0 w w' := by
  have H : (if a0 ≥ 0 then (some (decide (a0 < a1))) else (some false)) = some r := h
  clear h
  by_cases c3 : a0 ≥ 0
  · rw [if_pos c3] at H
    have c3b0 : decide (0 ≤ a0) = true := decide_eq_true c3
    clear c3
    obtain rfl := Option.some.inj H
    go_enter Try.func61, Try.ntmps61
    go_wp2
    go_ret
    exact ⟨by first | rfl | (simp; done) | (simp [*]; done), by repeat (first | exact Drawn0.refl _ | apply Drawn0.step)⟩
  · rw [if_neg c3] at H
    have c3b0 : decide (0 ≤ a0) = false := decide_eq_false c3
    clear c3
    obtain rfl := Option.some.inj H
    go_enter Try.func61, Try.ntmps61
    go_wp2
    go_ret
    exact ⟨by first | rfl | (simp; done) | (simp [*]; done), by repeat (first | exact Drawn0.refl _ | apply Drawn0.step)⟩
end Go.Proofs.Ytihnbkoeaaepiaa.PMachineCheck
