/- For every function, instruction and terminator, all functions return what the reference implementation returns. No condition. -/
import Derived.Test.YtndbpljldmnkcaaZSourceMatchesReference21
import Derived.Test.YtndbpljldmnkcaaZSourceMatchesReference24
import Derived.Test.YtndbpljldmnkcaaZSourceMatchesReference26
import Derived.Test.YtndbpljldmnkcaaZSourceMatchesReference27
namespace Go.Proofs.Ytndbpljldmnkcaa.PSourceMatchesReference
open Go.RowKit Go.Proofs.YtndbpljldmnkcaaW.PrintWords Go.Proofs.YtndbpljldmnkcaaW.PrintLast Go.Proofs.YtndbpljldmnkcaaW.PrintMore
attribute [local go_sem] max2_int min2_int max_two min_two max_three min_three max_four min_four   
set_option linter.unusedVariables false
set_option linter.unusedSimpArgs false
mutual
def regcertref07_Check.j0 : Nat → Bool → Int → Int → List (S68) → Option (Int)
  | 0, _, _, _, _ => none
  | k + 1, x17, x211000, x211001, x211002 => if x17 = true then (some 9) else (if x211001 > 1048576 then (some 6) else (if (x211002.length : Int) = 0 then (some 14) else (if (x211002.length : Int) > 1048576 then (regcertref07_Check.j1 k true x211000 x211001 x211002) else ((regcertref07_Code.f k x211000 x211001 x211002).bind fun t211 => (regcertref07_Check.j1 k (decide (t211 > 1048576)) x211000 x211001 x211002)))))
def regcertref07_Check.j1 : Nat → Bool → Int → Int → List (S68) → Option (Int)
  | 0, _, _, _, _ => none
  | k + 1, x33, x211000, x211001, x211002 => if x33 = true then (some 6) else (regcertref07_Check.l0 k 0 x211000 x211001 x211002)
def regcertref07_Check.l0 : Nat → Int → Int → Int → List (S68) → Option (Int)
  | 0, _, _, _, _ => none
  | k + 1, x3, x211000, x211001, x211002 => if x3 < (x211002.length : Int) then (if 0 ≤ x3 then (regcertref07_Check.l1 k x3 0 x211000 x211001 x211002 ((rd_T68 x211002 x3).f0) ((rd_T68 x211002 x3).f1.f0) ((rd_T68 x211002 x3).f1.f1) ((rd_T68 x211002 x3).f1.f2) ((rd_T68 x211002 x3).f1.f3)) else (none)) else (some 0)
def regcertref07_Check.l1 : Nat → Int → Int → Int → Int → List (S68) → List (S52) → Int → Int → Int → Int → Option (Int)
  | 0, _, _, _, _, _, _, _, _, _, _ => none
  | k + 1, x3, x5, x211000, x211001, x211002, x214000, x214001, x214002, x214003, x214004 => if x5 < (x214000.length : Int) then (if 0 ≤ x5 then ((regcertref07_Instr.f k ((rd_T52 x214000 x5).f0) ((rd_T52 x214000 x5).f1) ((rd_T52 x214000 x5).f2) ((rd_T52 x214000 x5).f3) ((rd_T52 x214000 x5).f4) x211001).bind fun t215 => (if t215 = 0 then (regcertref07_Check.l1 k x3 (wrap64 (x5 + 1)) x211000 x211001 x211002 x214000 x214001 x214002 x214003 x214004) else (some t215))) else (none)) else ((regcertref07_Term.f x214001 x214002 x214003 x214004 x211001 (x211002.length : Int)).bind fun t216 => (if t216 = 0 then (regcertref07_Check.l0 k (wrap64 (x3 + 1)) x211000 x211001 x211002) else (some t216)))
end
def regcertref07_Check.f (k : Nat) (a0_0 : Int) (a0_1 : Int) (l0_2 : List (S68)) : Option (Int) := if a0_0 < 0 then (regcertref07_Check.j0 k true a0_0 a0_1 l0_2) else (regcertref07_Check.j0 k (decide (a0_0 > a0_1)) a0_0 a0_1 l0_2)
theorem regcertref07_Check.mono_l : ∀ k, (∀ y0 y1 y2 y3, LeO (regcertref07_Check.j0 k y0 y1 y2 y3) (regcertref07_Check.j0 (k + 1) y0 y1 y2 y3)) ∧ (∀ y0 y1 y2 y3, LeO (regcertref07_Check.j1 k y0 y1 y2 y3) (regcertref07_Check.j1 (k + 1) y0 y1 y2 y3)) ∧ (∀ y0 y1 y2 y3, LeO (regcertref07_Check.l0 k y0 y1 y2 y3) (regcertref07_Check.l0 (k + 1) y0 y1 y2 y3)) ∧ (∀ y0 y1 y2 y3 y4 y5 y6 y7 y8 y9, LeO (regcertref07_Check.l1 k y0 y1 y2 y3 y4 y5 y6 y7 y8 y9) (regcertref07_Check.l1 (k + 1) y0 y1 y2 y3 y4 y5 y6 y7 y8 y9))
  | 0 => ⟨fun _ _ _ _ r h => by simp [regcertref07_Check.j0] at h, fun _ _ _ _ r h => by simp [regcertref07_Check.j1] at h, fun _ _ _ _ r h => by simp [regcertref07_Check.l0] at h, fun _ _ _ _ _ _ _ _ _ _ r h => by simp [regcertref07_Check.l1] at h⟩
  | k + 1 => by
    obtain ⟨ih0, ih1, ih2, ih3⟩ := regcertref07_Check.mono_l k
    refine ⟨?_, ?_, ?_, ?_⟩
    · intro y0 y1 y2 y3
      unfold regcertref07_Check.j0
      repeat' first
      | (with_reducible exact ih0 _ _ _ _)
      | (with_reducible exact ih1 _ _ _ _)
      | (with_reducible exact ih2 _ _ _ _)
      | (with_reducible exact ih3 _ _ _ _ _ _ _ _ _ _)
      | (with_reducible exact regcertref07_Code.mono _ _ _ _)
      | (with_reducible exact regcertref07_Instr.mono _ _ _ _ _ _ _)
      | (with_reducible exact LeO.refl _)
      | (with_reducible exact LeO.none _)
      | (with_reducible refine LeO.ite ?_ ?_)
      | (with_reducible refine LeO.bind ?_ (fun _ => ?_))
      | exact ih0 _ _ _ _
      | exact ih1 _ _ _ _
      | exact ih2 _ _ _ _
      | exact ih3 _ _ _ _ _ _ _ _ _ _
      | exact regcertref07_Code.mono _ _ _ _
      | exact regcertref07_Instr.mono _ _ _ _ _ _ _
      | exact LeO.none _
      | refine LeO.ite ?_ ?_
      | refine LeO.bind ?_ (fun _ => ?_)
    · intro y0 y1 y2 y3
      unfold regcertref07_Check.j1
      repeat' first
      | (with_reducible exact ih0 _ _ _ _)
      | (with_reducible exact ih1 _ _ _ _)
      | (with_reducible exact ih2 _ _ _ _)
      | (with_reducible exact ih3 _ _ _ _ _ _ _ _ _ _)
      | (with_reducible exact regcertref07_Code.mono _ _ _ _)
      | (with_reducible exact regcertref07_Instr.mono _ _ _ _ _ _ _)
      | (with_reducible exact LeO.refl _)
      | (with_reducible exact LeO.none _)
      | (with_reducible refine LeO.ite ?_ ?_)
      | (with_reducible refine LeO.bind ?_ (fun _ => ?_))
      | exact ih0 _ _ _ _
      | exact ih1 _ _ _ _
      | exact ih2 _ _ _ _
      | exact ih3 _ _ _ _ _ _ _ _ _ _
      | exact regcertref07_Code.mono _ _ _ _
      | exact regcertref07_Instr.mono _ _ _ _ _ _ _
      | exact LeO.none _
      | refine LeO.ite ?_ ?_
      | refine LeO.bind ?_ (fun _ => ?_)
    · intro y0 y1 y2 y3
      unfold regcertref07_Check.l0
      repeat' first
      | (with_reducible exact ih0 _ _ _ _)
      | (with_reducible exact ih1 _ _ _ _)
      | (with_reducible exact ih2 _ _ _ _)
      | (with_reducible exact ih3 _ _ _ _ _ _ _ _ _ _)
      | (with_reducible exact regcertref07_Code.mono _ _ _ _)
      | (with_reducible exact regcertref07_Instr.mono _ _ _ _ _ _ _)
      | (with_reducible exact LeO.refl _)
      | (with_reducible exact LeO.none _)
      | (with_reducible refine LeO.ite ?_ ?_)
      | (with_reducible refine LeO.bind ?_ (fun _ => ?_))
      | exact ih0 _ _ _ _
      | exact ih1 _ _ _ _
      | exact ih2 _ _ _ _
      | exact ih3 _ _ _ _ _ _ _ _ _ _
      | exact regcertref07_Code.mono _ _ _ _
      | exact regcertref07_Instr.mono _ _ _ _ _ _ _
      | exact LeO.none _
      | refine LeO.ite ?_ ?_
      | refine LeO.bind ?_ (fun _ => ?_)
    · intro y0 y1 y2 y3 y4 y5 y6 y7 y8 y9
      unfold regcertref07_Check.l1
      repeat' first
      | (with_reducible exact ih0 _ _ _ _)
      | (with_reducible exact ih1 _ _ _ _)
      | (with_reducible exact ih2 _ _ _ _)
      | (with_reducible exact ih3 _ _ _ _ _ _ _ _ _ _)
      | (with_reducible exact regcertref07_Code.mono _ _ _ _)
      | (with_reducible exact regcertref07_Instr.mono _ _ _ _ _ _ _)
      | (with_reducible exact LeO.refl _)
      | (with_reducible exact LeO.none _)
      | (with_reducible refine LeO.ite ?_ ?_)
      | (with_reducible refine LeO.bind ?_ (fun _ => ?_))
      | exact ih0 _ _ _ _
      | exact ih1 _ _ _ _
      | exact ih2 _ _ _ _
      | exact ih3 _ _ _ _ _ _ _ _ _ _
      | exact regcertref07_Code.mono _ _ _ _
      | exact regcertref07_Instr.mono _ _ _ _ _ _ _
      | exact LeO.none _
      | refine LeO.ite ?_ ?_
      | refine LeO.bind ?_ (fun _ => ?_)
theorem regcertref07_Check.mono : ∀ a0 a1 a2 k, LeO (regcertref07_Check.f k a0 a1 a2) (regcertref07_Check.f (k + 1) a0 a1 a2) := by
  intro a0 a1 a2 k
  obtain ⟨ih0, ih1, ih2, ih3⟩ := regcertref07_Check.mono_l k
  unfold regcertref07_Check.f
  repeat' first
      | (with_reducible exact ih0 _ _ _ _)
      | (with_reducible exact ih1 _ _ _ _)
      | (with_reducible exact ih2 _ _ _ _)
      | (with_reducible exact ih3 _ _ _ _ _ _ _ _ _ _)
      | (with_reducible exact regcertref07_Code.mono _ _ _ _)
      | (with_reducible exact regcertref07_Instr.mono _ _ _ _ _ _ _)
      | (with_reducible exact LeO.refl _)
      | (with_reducible exact LeO.none _)
      | (with_reducible refine LeO.ite ?_ ?_)
      | (with_reducible refine LeO.bind ?_ (fun _ => ?_))
      | exact ih0 _ _ _ _
      | exact ih1 _ _ _ _
      | exact ih2 _ _ _ _
      | exact ih3 _ _ _ _ _ _ _ _ _ _
      | exact regcertref07_Code.mono _ _ _ _
      | exact regcertref07_Instr.mono _ _ _ _ _ _ _
      | exact LeO.none _
      | refine LeO.ite ?_ ?_
      | refine LeO.bind ?_ (fun _ => ?_)
def regcertref07_Check.T16 : Bool × List (List Nat × List Nat) := (true, [([], []), ([0], [0]), ([], []), ([1, 2], [1, 2]), ([3], [3]), ([], []), ([5], [5]), ([4, 6], [4, 6]), ([7, 7, 0, 1, 2, 3, 4, 5, 6, 7], [7])])
def regcertref07_Check.B16 : List Nat := [0, 1, 0, 7, 15, 0, 32, 127, 255]
theorem regcertref07_Check.tab16 : rtab .any (opsOf Try.f29 16) = regcertref07_Check.T16 := by kernel_rfl
theorem regcertref07_Check.bits16 : waitsOk regcertref07_Check.T16.2 regcertref07_Check.B16 = true := by kernel_rfl
set_option maxHeartbeats 8000000 in
set_option maxRecDepth 100000 in
theorem regcertref07_Check.calls (k : Nat) (a0_0 : Int) (a0_1 : Int) (A0_2 : Option Addr) (c0_2 : Nat) (l0_2 : List (S68)) (r : Int) (w : World) (hr0_2 : Kd.C k68 w A0_2 l0_2.length l0_2) (hc0_2 : l0_2.length ≤ c0_2) (h : regcertref07_Check.f k a0_0 a0_1 l0_2 = some r) :
    Calls Try.prog 29 #[.agg #[.int .i64 a0_0, .int .i64 a0_1, .slice A0_2 l0_2.length c0_2]] w fun e w' => e = .returned (.int .i64 r) ∧ Below w.heap.size w w' := by
  have hu50 := Try.underlying50
  have hu68 := Try.underlying68
  have hu52 := Try.underlying52
  have hu54 := Try.underlying54
  have HR0_2 := Aside0.mk hr0_2
  have HC0_2 := Aside0.mk hc0_2
  clear hr0_2 hc0_2
  have HB := Aside0.mk (Below.refl w.heap.size w)
  have H : (if a0_0 < 0 then (regcertref07_Check.j0 k true a0_0 a0_1 l0_2) else (regcertref07_Check.j0 k (decide (a0_0 > a0_1)) a0_0 a0_1 l0_2)) = some r := h
  clear h
  have HC2 := Aside0.mk H
  clear H
  go_enter Try.func29, Try.ntmps29
  go_upto_region 1 with (first | ((with_reducible refine gate_dst (N := 1) rfl ?_); refine box_event ?hg (N := 1) ?hd (cs := #[.int .i64 a0_0, .int .i64 a0_1, .slice A0_2 l0_2.length c0_2]) (t := 50) ?hr ?_; (case hd => rfl); (case hg => rfl); (case hr => first | (go_simp; done) | (go_simp; rfl)); intro gb210 hg w3 hbox hb; have n0_ := Aside0.mk (below_step (by repeat (first | (with_reducible first | exact HB.out | apply below_alloc | apply pw_below_drewN | apply below_drew1) | exact HB.out)) hb); have n1_ := Aside0.mk (hbox); have n2_ := Aside0.mk ((by rw [hg]; exact (below_size (by repeat (first | (with_reducible first | exact HB.out | apply below_alloc | apply pw_below_drewN | apply below_drew1) | exact HB.out))) : w.heap.size ≤ gb210)); have n3_ := Aside0.mk ((by rw [hg]; exact (below_size (by repeat (first | (with_reducible first | exact HB.out | apply below_alloc | apply pw_below_drewN | apply below_drew1) | exact HB.out))) : w.heap.size ≤ gb210)); clear HB; have HB := n0_; have BK210 := n1_; have GW210 := n2_; have GE210 := n3_; clear n0_ n1_ n2_ n3_; clear hb hbox hg))
  (try simp only [Act.put, List.setIfInBounds_toArray, List.set_cons_zero, List.set_cons_succ])
  go_cut [17] (fun v17 wc => ∃ (kq : Nat) (x17_1 : Bool), v17 = .bool x17_1 ∧ Aside0 (regcertref07_Check.j0 kq x17_1 a0_0 a0_1 l0_2 = some r) ∧ Aside0 (kq ≤ k) ∧ Aside0 (wc.heap[gb210]? = some (.cells #[.int .i64 a0_0, .int .i64 a0_1, (.slice A0_2 l0_2.length c0_2)] 50 (0, 0))) ∧ Aside0 (Below w.heap.size w wc))
  case first =>
    have H := HC2.out
    clear HC2
    by_cases c4 : a0_0 < 0
    · rw [if_pos c4] at H
      have c4b0 : decide (a0_0 < 0) = true := decide_eq_true c4
      clear c4
      (first | rw [c4b0] | (simp only [i64_w, i32_w]; rw [c4b0]) | skip)
      have H' := Aside0.mk H
      clear H
      have hcz5_0 : w3.cell? ⟨gb210, 0, none⟩ = some (.int .i64 a0_0) := (blk_cell BK210.out 0).trans rfl
      have hcz5_1 : w3.cell? ⟨gb210, 1, none⟩ = some (.int .i64 a0_1) := (blk_cell BK210.out 1).trans rfl
      have hcz5_2 : w3.cell? ⟨gb210, 2, none⟩ = some (.slice A0_2 l0_2.length c0_2) := (blk_cell BK210.out 2).trans rfl
      have hfz5_0 := blk_frozen BK210.out 0
      have hfz5_1 := blk_frozen BK210.out 1
      have hfz5_2 := blk_frozen BK210.out 2
      go_wp2
      go_meet
      case rel => exact ⟨_, (true), (by first | rfl | (simp; done) | (simp [*]; done)), H', ⟨by first | omega | exact Nat.le_refl _⟩, ⟨by (with_reducible repeat (first | refine blk_drewN ?_ _ | refine blk_drew ?_ | refine blk_alloc ?_ _)); exact BK210.out⟩, ⟨by repeat (first | (with_reducible first | exact HB.out | apply below_alloc | apply pw_below_drewN | apply below_drew1 | refine below_set ?_ GE210.out) | exact HB.out)⟩⟩
    · rw [if_neg c4] at H
      have c4b0 : decide (a0_0 < 0) = false := decide_eq_false c4
      clear c4
      (first | rw [c4b0] | (simp only [i64_w, i32_w]; rw [c4b0]) | skip)
      have H' := Aside0.mk H
      clear H
      have hcz6_0 : w3.cell? ⟨gb210, 0, none⟩ = some (.int .i64 a0_0) := (blk_cell BK210.out 0).trans rfl
      have hcz6_1 : w3.cell? ⟨gb210, 1, none⟩ = some (.int .i64 a0_1) := (blk_cell BK210.out 1).trans rfl
      have hcz6_2 : w3.cell? ⟨gb210, 2, none⟩ = some (.slice A0_2 l0_2.length c0_2) := (blk_cell BK210.out 2).trans rfl
      have hfz6_0 := blk_frozen BK210.out 0
      have hfz6_1 := blk_frozen BK210.out 1
      have hfz6_2 := blk_frozen BK210.out 2
      go_wp2
      go_meet
      case rel => exact ⟨_, (decide (a0_0 > a0_1)), (by first | rfl | (simp; done) | (simp [*]; done)), H', ⟨by first | omega | exact Nat.le_refl _⟩, ⟨by (with_reducible repeat (first | refine blk_drewN ?_ _ | refine blk_drew ?_ | refine blk_alloc ?_ _)); exact BK210.out⟩, ⟨by repeat (first | (with_reducible first | exact HB.out | apply below_alloc | apply pw_below_drewN | apply below_drew1 | refine below_set ?_ GE210.out) | exact HB.out)⟩⟩
  case rest =>
    clear HC2
    try clear c2
    try clear p2
    try clear c4
    try clear c4b0
    try clear hcz5_0
    try clear hcz5_1
    try clear hcz5_2
    try clear hcz6_0
    try clear hcz6_1
    try clear hcz6_2
    try clear hfz5_0
    try clear hfz5_1
    try clear hfz5_2
    try clear hfz6_0
    try clear hfz6_1
    try clear hfz6_2
    obtain ⟨kq, x17_1, rfl, HA, HJ1, BK210, HB⟩ := hcut
    cases kq with
    | zero => exact absurd HA.out (by simp [regcertref07_Check.j0])
    | succ kj1 =>
      have H := HA.out
      clear HA
      simp only [regcertref07_Check.j0] at H
      by_cases c7 : x17_1 = true
      · subst c7
        have H1 : (some 9) = some r := by rw [if_pos rfl] at H; exact H
        clear H
        have H := H1
        clear H1
        obtain rfl := Option.some.inj H
        go_wp2
        go_ret
        exact ⟨by first | rfl | (simp [errW_none, errW_some] <;> rfl) | (simp [*, errW_none, errW_some] <;> rfl), by repeat (first | (with_reducible first | exact HB.out | apply below_alloc | apply pw_below_drewN | apply below_drew1 | refine below_set ?_ GE210.out) | exact HB.out)⟩
      · replace c7 := Bool.eq_false_iff.mpr c7
        subst c7
        have H1 : (if a0_1 > 1048576 then (some 6) else (if (l0_2.length : Int) = 0 then (some 14) else (if (l0_2.length : Int) > 1048576 then (regcertref07_Check.j1 kj1 true a0_0 a0_1 l0_2) else ((regcertref07_Code.f kj1 a0_0 a0_1 l0_2).bind fun t211 => (regcertref07_Check.j1 kj1 (decide (t211 > 1048576)) a0_0 a0_1 l0_2))))) = some r := by rw [if_neg (show ¬ (false = true) by decide)] at H; exact H
        clear H
        have H := H1
        clear H1
        by_cases c8 : a0_1 > 1048576
        · rw [if_pos c8] at H
          have c8b0 : decide (1048576 < a0_1) = true := decide_eq_true c8
          clear c8
          obtain rfl := Option.some.inj H
          have hcz9_0 : wc.cell? ⟨gb210, 0, none⟩ = some (.int .i64 a0_0) := (blk_cell BK210.out 0).trans rfl
          have hcz9_1 : wc.cell? ⟨gb210, 1, none⟩ = some (.int .i64 a0_1) := (blk_cell BK210.out 1).trans rfl
          have hcz9_2 : wc.cell? ⟨gb210, 2, none⟩ = some (.slice A0_2 l0_2.length c0_2) := (blk_cell BK210.out 2).trans rfl
          have hfz9_0 := blk_frozen BK210.out 0
          have hfz9_1 := blk_frozen BK210.out 1
          have hfz9_2 := blk_frozen BK210.out 2
          go_wp2
          go_ret
          exact ⟨by first | rfl | (simp [errW_none, errW_some] <;> rfl) | (simp [*, errW_none, errW_some] <;> rfl), by repeat (first | (with_reducible first | exact HB.out | apply below_alloc | apply pw_below_drewN | apply below_drew1 | refine below_set ?_ GE210.out) | exact HB.out)⟩
        · rw [if_neg c8] at H
          have c8b0 : decide (1048576 < a0_1) = false := decide_eq_false c8
          clear c8
          by_cases c10 : (l0_2.length : Int) = 0
          · rw [if_pos c10] at H
            have c10b0 : ((l0_2.length : Int) == 0) = true := beq_iff_eq.mpr c10
            have c10b1 : ((l0_2.length : Int) != 0) = false := bne_eq_false_iff_eq.mpr c10
            clear c10
            obtain rfl := Option.some.inj H
            have hcz11_0 : wc.cell? ⟨gb210, 0, none⟩ = some (.int .i64 a0_0) := (blk_cell BK210.out 0).trans rfl
            have hcz11_1 : wc.cell? ⟨gb210, 1, none⟩ = some (.int .i64 a0_1) := (blk_cell BK210.out 1).trans rfl
            have hcz11_2 : wc.cell? ⟨gb210, 2, none⟩ = some (.slice A0_2 l0_2.length c0_2) := (blk_cell BK210.out 2).trans rfl
            have hfz11_0 := blk_frozen BK210.out 0
            have hfz11_1 := blk_frozen BK210.out 1
            have hfz11_2 := blk_frozen BK210.out 2
            go_wp2
            go_ret
            exact ⟨by first | rfl | (simp [errW_none, errW_some] <;> rfl) | (simp [*, errW_none, errW_some] <;> rfl), by repeat (first | (with_reducible first | exact HB.out | apply below_alloc | apply pw_below_drewN | apply below_drew1 | refine below_set ?_ GE210.out) | exact HB.out)⟩
          · rw [if_neg c10] at H
            have c10b0 : ((l0_2.length : Int) == 0) = false := beq_eq_false_iff_ne.mpr c10
            have c10b1 : ((l0_2.length : Int) != 0) = true := bne_iff_ne.mpr c10
            have c10b2 : ¬ (l0_2 = []) := fun h_ => c10 (by rw [h_]; rfl)
            have HC12 := Aside0.mk H
            clear H
            have hcz13_0 : wc.cell? ⟨gb210, 0, none⟩ = some (.int .i64 a0_0) := (blk_cell BK210.out 0).trans rfl
            have hcz13_1 : wc.cell? ⟨gb210, 1, none⟩ = some (.int .i64 a0_1) := (blk_cell BK210.out 1).trans rfl
            have hcz13_2 : wc.cell? ⟨gb210, 2, none⟩ = some (.slice A0_2 l0_2.length c0_2) := (blk_cell BK210.out 2).trans rfl
            have hfz13_0 := blk_frozen BK210.out 0
            have hfz13_1 := blk_frozen BK210.out 1
            have hfz13_2 := blk_frozen BK210.out 2
            go_upto_region 7 with (fail)
            go_cut [33] (fun v33 wc => ∃ (kq : Nat) (x33_11 : Bool), v33 = .bool x33_11 ∧ Aside0 (regcertref07_Check.j1 kq x33_11 a0_0 a0_1 l0_2 = some r) ∧ Aside0 (kq ≤ kj1) ∧ Aside0 (wc.heap[gb210]? = some (.cells #[.int .i64 a0_0, .int .i64 a0_1, (.slice A0_2 l0_2.length c0_2)] 50 (0, 0))) ∧ Aside0 (Below w.heap.size w wc))
            case first =>
              have H := HC12.out
              clear HC12
              by_cases c14 : (l0_2.length : Int) > 1048576
              · rw [if_pos c14] at H
                have c14b0 : decide (1048576 < (l0_2.length : Int)) = true := decide_eq_true c14
                have c14b1 : decide (1048576 < l0_2.length) = true := decide_eq_true (by omega)
                clear c14
                (first | rw [c14b0] | (simp only [i64_w, i32_w]; rw [c14b0]) | skip)
                have H' := Aside0.mk H
                clear H
                have hcz15_0 : wc.cell? ⟨gb210, 0, none⟩ = some (.int .i64 a0_0) := (blk_cell BK210.out 0).trans rfl
                have hcz15_1 : wc.cell? ⟨gb210, 1, none⟩ = some (.int .i64 a0_1) := (blk_cell BK210.out 1).trans rfl
                have hcz15_2 : wc.cell? ⟨gb210, 2, none⟩ = some (.slice A0_2 l0_2.length c0_2) := (blk_cell BK210.out 2).trans rfl
                have hfz15_0 := blk_frozen BK210.out 0
                have hfz15_1 := blk_frozen BK210.out 1
                have hfz15_2 := blk_frozen BK210.out 2
                go_wp2
                go_meet
                case rel => exact ⟨_, (true), (by first | rfl | (simp; done) | (simp [*]; done)), H', ⟨by have := HJ1.out; first | omega | exact Nat.le_refl _⟩, ⟨by (with_reducible repeat (first | refine blk_drewN ?_ _ | refine blk_drew ?_ | refine blk_alloc ?_ _)); exact BK210.out⟩, ⟨by repeat (first | (with_reducible first | exact HB.out | apply below_alloc | apply pw_below_drewN | apply below_drew1 | refine below_set ?_ GE210.out) | exact HB.out)⟩⟩
              · rw [if_neg c14] at H
                have c14b0 : decide (1048576 < (l0_2.length : Int)) = false := decide_eq_false c14
                have c14b1 : decide (1048576 < l0_2.length) = false := decide_eq_false (by omega)
                clear c14
                (first | rw [c14b0] | (simp only [i64_w, i32_w]; rw [c14b0]) | skip)
                replace H := Option.bind_eq_some_iff.mp H
                obtain ⟨t211, A160, H⟩ := H
                replace H : (regcertref07_Check.j1 kj1 (decide (t211 > 1048576)) a0_0 a0_1 l0_2) = some r := H
                have A16 := Aside0.mk A160
                clear A160
                have H' := Aside0.mk H
                clear H
                have hcz17_0 : wc.cell? ⟨gb210, 0, none⟩ = some (.int .i64 a0_0) := (blk_cell BK210.out 0).trans rfl
                have hcz17_1 : wc.cell? ⟨gb210, 1, none⟩ = some (.int .i64 a0_1) := (blk_cell BK210.out 1).trans rfl
                have hcz17_2 : wc.cell? ⟨gb210, 2, none⟩ = some (.slice A0_2 l0_2.length c0_2) := (blk_cell BK210.out 2).trans rfl
                have hfz17_0 := blk_frozen BK210.out 0
                have hfz17_1 := blk_frozen BK210.out 1
                have hfz17_2 := blk_frozen BK210.out 2
                go_wp2_with (first | (go_at_call 35; (with_reducible refine (regcertref07_Code.calls kj1 a0_0 a0_1 _ _ l0_2 t211 _ ?side1 ?side2 A16.out).mono ?_); (case side1 => repeat (first | exact (Kd.C_below HR0_2.out HB.out) | (with_reducible refine Kd.C_alloc ?_ _) | (with_reducible refine Kd.C_drewN ?_ _) | (with_reducible refine Kd.C_drew ?_))); (case side2 => exact HC0_2.out); rintro e w18 ⟨rfl, hb⟩; have n0_ := Aside0.mk (blk_below (g := gb210) (o := .cells #[.int .i64 a0_0, .int .i64 a0_1, .slice A0_2 l0_2.length c0_2] 50 (0, 0)) (by (with_reducible repeat (first | refine blk_drewN ?_ _ | refine blk_drew ?_ | refine blk_alloc ?_ _)); exact BK210.out) hb); have n1_ := Aside0.mk (below_step (by repeat (first | (with_reducible first | exact HB.out | apply below_alloc | apply pw_below_drewN | apply below_drew1 | refine below_set ?_ GE210.out) | exact HB.out)) hb); clear BK210; clear HB; have BK210 := n0_; have HB := n1_; clear n0_ n1_; (try clear hb); (try clear hb2); (try clear hk); (try clear hi)))
                go_meet
                case rel => exact ⟨_, (decide (t211 > 1048576)), (by first | rfl | (simp; done) | (simp [*]; done)), H', ⟨by have := HJ1.out; first | omega | exact Nat.le_refl _⟩, ⟨by (with_reducible repeat (first | refine blk_drewN ?_ _ | refine blk_drew ?_ | refine blk_alloc ?_ _)); exact BK210.out⟩, ⟨by repeat (first | (with_reducible first | exact HB.out | apply below_alloc | apply pw_below_drewN | apply below_drew1 | refine below_set ?_ GE210.out) | exact HB.out)⟩⟩
            case rest =>
              clear HC12
              try clear c1
              try clear c2
              try clear p2
              try clear c4
              try clear c4b0
              try clear c7
              try clear c8
              try clear c8b0
              try clear c10
              try clear c10b0
              try clear c10b1
              try clear c10b2
              try clear c14
              try clear c14b0
              try clear c14b1
              try clear hcz11_0
              try clear hcz11_1
              try clear hcz11_2
              try clear hcz13_0
              try clear hcz13_1
              try clear hcz13_2
              try clear hcz15_0
              try clear hcz15_1
              try clear hcz15_2
              try clear hcz17_0
              try clear hcz17_1
              try clear hcz17_2
              try clear hcz5_0
              try clear hcz5_1
              try clear hcz5_2
              try clear hcz6_0
              try clear hcz6_1
              try clear hcz6_2
              try clear hcz9_0
              try clear hcz9_1
              try clear hcz9_2
              try clear hfz11_0
              try clear hfz11_1
              try clear hfz11_2
              try clear hfz13_0
              try clear hfz13_1
              try clear hfz13_2
              try clear hfz15_0
              try clear hfz15_1
              try clear hfz15_2
              try clear hfz17_0
              try clear hfz17_1
              try clear hfz17_2
              try clear hfz5_0
              try clear hfz5_1
              try clear hfz5_2
              try clear hfz6_0
              try clear hfz6_1
              try clear hfz6_2
              try clear hfz9_0
              try clear hfz9_1
              try clear hfz9_2
              try clear p2
              obtain ⟨kq, x33_11, rfl, HA, HJ11, BK210, HB⟩ := hcut
              cases kq with
              | zero => exact absurd HA.out (by simp [regcertref07_Check.j1])
              | succ kj11 =>
                have H := HA.out
                clear HA
                simp only [regcertref07_Check.j1] at H
                by_cases c19 : x33_11 = true
                · subst c19
                  have H1 : (some 6) = some r := by rw [if_pos rfl] at H; exact H
                  clear H
                  have H := H1
                  clear H1
                  obtain rfl := Option.some.inj H
                  go_wp2
                  go_ret
                  exact ⟨by first | rfl | (simp [errW_none, errW_some] <;> rfl) | (simp [*, errW_none, errW_some] <;> rfl), by repeat (first | (with_reducible first | exact HB.out | apply below_alloc | apply pw_below_drewN | apply below_drew1 | refine below_set ?_ GE210.out) | exact HB.out)⟩
                · replace c19 := Bool.eq_false_iff.mpr c19
                  subst c19
                  have H1 : (regcertref07_Check.l0 kj11 0 a0_0 a0_1 l0_2) = some r := by rw [if_neg (show ¬ (false = true) by decide)] at H; exact H
                  clear H
                  have H := H1
                  clear H1
                  have H' := Aside0.mk H
                  clear H
                  go_wp2
                  go_loopg [3] kj11 (fun kq v3 w' => ∃ (x3_3 : Int), v3 = .int .i64 x3_3 ∧ Aside0 (regcertref07_Check.l0 kq x3_3 a0_0 a0_1 l0_2 = some r) ∧ Aside0 (kq ≤ kj11) ∧ Aside0 (w'.heap[gb210]? = some (.cells #[.int .i64 a0_0, .int .i64 a0_1, (.slice A0_2 l0_2.length c0_2)] 50 (0, 0))) ∧ Aside0 (Below w.heap.size w w'))
                  case atStart => exact ⟨(0), (by first | rfl | (simp; done) | (simp [*]; done)), H', ⟨Nat.le_refl _⟩, ⟨by (with_reducible repeat (first | refine blk_drewN ?_ _ | refine blk_drew ?_ | refine blk_alloc ?_ _)); exact BK210.out⟩, ⟨by repeat (first | (with_reducible first | exact HB.out | apply below_alloc | apply pw_below_drewN | apply below_drew1 | refine below_set ?_ GE210.out) | exact HB.out)⟩⟩
                  case round =>
                    clear H'
                    try clear c1
                    try clear c2
                    try clear p2
                    try clear c4
                    try clear c4b0
                    try clear c7
                    try clear c8
                    try clear c8b0
                    try clear c10
                    try clear c10b0
                    try clear c10b1
                    try clear c10b2
                    try clear c14
                    try clear c14b0
                    try clear c14b1
                    try clear c19
                    try clear hcz11_0
                    try clear hcz11_1
                    try clear hcz11_2
                    try clear hcz13_0
                    try clear hcz13_1
                    try clear hcz13_2
                    try clear hcz15_0
                    try clear hcz15_1
                    try clear hcz15_2
                    try clear hcz17_0
                    try clear hcz17_1
                    try clear hcz17_2
                    try clear hcz5_0
                    try clear hcz5_1
                    try clear hcz5_2
                    try clear hcz6_0
                    try clear hcz6_1
                    try clear hcz6_2
                    try clear hcz9_0
                    try clear hcz9_1
                    try clear hcz9_2
                    try clear hfz11_0
                    try clear hfz11_1
                    try clear hfz11_2
                    try clear hfz13_0
                    try clear hfz13_1
                    try clear hfz13_2
                    try clear hfz15_0
                    try clear hfz15_1
                    try clear hfz15_2
                    try clear hfz17_0
                    try clear hfz17_1
                    try clear hfz17_2
                    try clear hfz5_0
                    try clear hfz5_1
                    try clear hfz5_2
                    try clear hfz6_0
                    try clear hfz6_1
                    try clear hfz6_2
                    try clear hfz9_0
                    try clear hfz9_1
                    try clear hfz9_2
                    try clear p2
                    obtain ⟨x3_3, rfl, HA, HK3, BK210, HB⟩ := hrel
                    cases gk with
                    | zero => exact absurd HA.out (by simp [regcertref07_Check.l0])
                    | succ k3 =>
                      have H := HA.out
                      clear HA
                      simp only [regcertref07_Check.l0] at H
                      by_cases c20 : x3_3 < (l0_2.length : Int)
                      · rw [if_pos c20] at H
                        have c20b0 : decide (x3_3 < (l0_2.length : Int)) = true := decide_eq_true c20
                        clear c20
                        by_cases c21 : 0 ≤ x3_3
                        · rw [if_pos c21] at H
                          have c21b0 : decide (0 ≤ x3_3) = true := decide_eq_true c21
                          clear c21
                          have H' := Aside0.mk H
                          clear H
                          have hcz22_0 : wr.cell? ⟨gb210, 0, none⟩ = some (.int .i64 a0_0) := (blk_cell BK210.out 0).trans rfl
                          have hcz22_1 : wr.cell? ⟨gb210, 1, none⟩ = some (.int .i64 a0_1) := (blk_cell BK210.out 1).trans rfl
                          have hcz22_2 : wr.cell? ⟨gb210, 2, none⟩ = some (.slice A0_2 l0_2.length c0_2) := (blk_cell BK210.out 2).trans rfl
                          have hfz22_0 := blk_frozen BK210.out 0
                          have hfz22_1 := blk_frozen BK210.out 1
                          have hfz22_2 := blk_frozen BK210.out 2
                          have p212 : 0 ≤ (x3_3 : Int) := of_decide_eq_true (by first | (with_reducible assumption) | assumption)
                          have q212 : x3_3 < (l0_2.length : Int) := of_decide_eq_true (by first | (with_reducible assumption) | assumption)
                          obtain ⟨ad212, A212_0, c212_0, e212, hx212_0, hx212_1, hx212_2, hx212_3, hx212_4, hl212_0, hi212_0⟩ := at_T68 HR0_2.out x3_3 p212 q212
                          cases e212
                          replace hx212_0 := (HB.out.cell (World.block_lt_of_cell? w _ hx212_0)).trans hx212_0
                          replace hx212_1 := (HB.out.cell (World.block_lt_of_cell? w _ hx212_1)).trans hx212_1
                          replace hx212_2 := (HB.out.cell (World.block_lt_of_cell? w _ hx212_2)).trans hx212_2
                          replace hx212_3 := (HB.out.cell (World.block_lt_of_cell? w _ hx212_3)).trans hx212_3
                          replace hx212_4 := (HB.out.cell (World.block_lt_of_cell? w _ hx212_4)).trans hx212_4
                          have HR212_0 := Aside0.mk hi212_0
                          have HC212_0 := Aside0.mk hl212_0
                          clear hi212_0 hl212_0
                          replace p212 := eq_true p212
                          replace q212 := eq_true q212
                          go_wp2_with (first | ((with_reducible refine gate_dst (N := 4) rfl ?_); refine box_event ?hg (N := 4) ?hd (cs := #[.slice none 0 0, .int .i64 0, .int .i64 0, .int .i64 0, .int .i64 0]) (t := 68) ?hr ?_; (case hd => rfl); (case hg => rfl); (case hr => first | (go_simp; done) | (go_simp; rfl)); intro gb213 hg w23 hbox hb; have n0_ := Aside0.mk (blk_below (g := gb210) (o := .cells #[.int .i64 a0_0, .int .i64 a0_1, .slice (some ad212) l0_2.length c0_2] 50 (0, 0)) (by (with_reducible repeat (first | refine blk_drewN ?_ _ | refine blk_drew ?_ | refine blk_alloc ?_ _)); exact BK210.out) hb); have n1_ := Aside0.mk (below_step (by repeat (first | (with_reducible first | exact HB.out | apply below_alloc | apply pw_below_drewN | apply below_drew1 | refine below_set ?_ GE210.out) | exact HB.out)) hb); have n2_ := Aside0.mk (hbox); have n3_ := Aside0.mk ((by rw [hg]; exact (below_size (by repeat (first | (with_reducible first | exact HB.out | apply below_alloc | apply pw_below_drewN | apply below_drew1 | refine below_set ?_ GE210.out) | exact HB.out))) : w.heap.size ≤ gb213)); have n4_ := Aside0.mk ((by rw [hg]; exact (below_size (by repeat (first | (with_reducible first | exact HB.out | apply below_alloc | apply pw_below_drewN | apply below_drew1 | refine below_set ?_ GE210.out) | exact HB.out))) : w.heap.size ≤ gb213)); have n5_ := Aside0.mk ((by rw [hg]; exact Nat.ne_of_lt (blk_lt (g := gb210) (o := .cells #[.int .i64 a0_0, .int .i64 a0_1, .slice (some ad212) l0_2.length c0_2] 50 (0, 0)) (by (with_reducible repeat (first | refine blk_drewN ?_ _ | refine blk_drew ?_ | refine blk_alloc ?_ _)); exact BK210.out)) : gb210 ≠ gb213)); have n6_ := Aside0.mk ((by rw [hg]; exact Nat.ne_of_gt (blk_lt (g := gb210) (o := .cells #[.int .i64 a0_0, .int .i64 a0_1, .slice (some ad212) l0_2.length c0_2] 50 (0, 0)) (by (with_reducible repeat (first | refine blk_drewN ?_ _ | refine blk_drew ?_ | refine blk_alloc ?_ _)); exact BK210.out)) : gb213 ≠ gb210)); clear BK210; clear HB; have BK210 := n0_; have HB := n1_; have BK213 := n2_; have GW213 := n3_; have GE213 := n4_; have NB210_213 := n5_; have NB213_210 := n6_; clear n0_ n1_ n2_ n3_ n4_ n5_ n6_; clear hb hbox hg; have hnb24 := NB213_210.out; have hnc24 := NB210_213.out; have hcz25_0 : w23.cell? ⟨gb213, 0, none⟩ = some (.slice none 0 0) := (blk_cell BK213.out 0).trans rfl; have hcz25_1 : w23.cell? ⟨gb213, 1, none⟩ = some (.int .i64 0) := (blk_cell BK213.out 1).trans rfl; have hcz25_2 : w23.cell? ⟨gb213, 2, none⟩ = some (.int .i64 0) := (blk_cell BK213.out 2).trans rfl; have hcz25_3 : w23.cell? ⟨gb213, 3, none⟩ = some (.int .i64 0) := (blk_cell BK213.out 3).trans rfl; have hcz25_4 : w23.cell? ⟨gb213, 4, none⟩ = some (.int .i64 0) := (blk_cell BK213.out 4).trans rfl; have hfz25_0 := blk_frozen BK213.out 0; have hfz25_1 := blk_frozen BK213.out 1; have hfz25_2 := blk_frozen BK213.out 2; have hfz25_3 := blk_frozen BK213.out 3; have hfz25_4 := blk_frozen BK213.out 4))
                          go_loopg [5] k3 (fun kq v5 w' => ∃ (x5_4 : Int), v5 = .int .i64 x5_4 ∧ Aside0 (regcertref07_Check.l1 kq x3_3 x5_4 a0_0 a0_1 l0_2 ((rd_T68 l0_2 x3_3).f0) ((rd_T68 l0_2 x3_3).f1.f0) ((rd_T68 l0_2 x3_3).f1.f1) ((rd_T68 l0_2 x3_3).f1.f2) ((rd_T68 l0_2 x3_3).f1.f3) = some r) ∧ Aside0 (kq ≤ k3) ∧ Aside0 (w'.heap[gb210]? = some (.cells #[.int .i64 a0_0, .int .i64 a0_1, (.slice (some ad212) l0_2.length c0_2)] 50 (0, 0))) ∧ Aside0 (w'.heap[gb213]? = some (.cells #[(.slice A212_0 ((rd_T68 l0_2 x3_3).f0).length c212_0), .int .i64 ((rd_T68 l0_2 x3_3).f1.f0), .int .i64 ((rd_T68 l0_2 x3_3).f1.f1), .int .i64 ((rd_T68 l0_2 x3_3).f1.f2), .int .i64 ((rd_T68 l0_2 x3_3).f1.f3)] 68 (0, 0))) ∧ Aside0 (Below w.heap.size w w'))
                          case atStart => exact ⟨(0), (by first | rfl | (simp; done) | (simp [*]; done)), H', ⟨Nat.le_refl _⟩, ⟨by (with_reducible repeat (first | refine blk_drewN ?_ _ | refine blk_drew ?_ | refine blk_alloc ?_ _)); refine blk_far ?_ NB210_213.out _; (with_reducible repeat (first | refine blk_drewN ?_ _ | refine blk_drew ?_ | refine blk_alloc ?_ _)); refine blk_far ?_ NB210_213.out _; (with_reducible repeat (first | refine blk_drewN ?_ _ | refine blk_drew ?_ | refine blk_alloc ?_ _)); refine blk_far ?_ NB210_213.out _; (with_reducible repeat (first | refine blk_drewN ?_ _ | refine blk_drew ?_ | refine blk_alloc ?_ _)); refine blk_far ?_ NB210_213.out _; (with_reducible repeat (first | refine blk_drewN ?_ _ | refine blk_drew ?_ | refine blk_alloc ?_ _)); refine blk_far ?_ NB210_213.out _; (with_reducible repeat (first | refine blk_drewN ?_ _ | refine blk_drew ?_ | refine blk_alloc ?_ _)); exact BK210.out⟩, ⟨by (with_reducible repeat (first | refine blk_drewN ?_ _ | refine blk_drew ?_ | refine blk_alloc ?_ _)); refine blk_put (cs := #[.slice A212_0 ((rd_T68 l0_2 x3_3).f0).length c212_0, .int .i64 ((rd_T68 l0_2 x3_3).f1.f0), .int .i64 ((rd_T68 l0_2 x3_3).f1.f1), .int .i64 ((rd_T68 l0_2 x3_3).f1.f2), .int .i64 0]) ?_ 4 _ rfl; (with_reducible repeat (first | refine blk_drewN ?_ _ | refine blk_drew ?_ | refine blk_alloc ?_ _)); refine blk_put (cs := #[.slice A212_0 ((rd_T68 l0_2 x3_3).f0).length c212_0, .int .i64 ((rd_T68 l0_2 x3_3).f1.f0), .int .i64 ((rd_T68 l0_2 x3_3).f1.f1), .int .i64 0, .int .i64 0]) ?_ 3 _ rfl; (with_reducible repeat (first | refine blk_drewN ?_ _ | refine blk_drew ?_ | refine blk_alloc ?_ _)); refine blk_put (cs := #[.slice A212_0 ((rd_T68 l0_2 x3_3).f0).length c212_0, .int .i64 ((rd_T68 l0_2 x3_3).f1.f0), .int .i64 0, .int .i64 0, .int .i64 0]) ?_ 2 _ rfl; (with_reducible repeat (first | refine blk_drewN ?_ _ | refine blk_drew ?_ | refine blk_alloc ?_ _)); refine blk_put (cs := #[.slice A212_0 ((rd_T68 l0_2 x3_3).f0).length c212_0, .int .i64 0, .int .i64 0, .int .i64 0, .int .i64 0]) ?_ 1 _ rfl; (with_reducible repeat (first | refine blk_drewN ?_ _ | refine blk_drew ?_ | refine blk_alloc ?_ _)); refine blk_put (cs := #[.slice none 0 0, .int .i64 0, .int .i64 0, .int .i64 0, .int .i64 0]) ?_ 0 _ rfl; (with_reducible repeat (first | refine blk_drewN ?_ _ | refine blk_drew ?_ | refine blk_alloc ?_ _)); exact BK213.out⟩, ⟨by repeat (first | (with_reducible first | exact HB.out | apply below_alloc | apply pw_below_drewN | apply below_drew1 | refine below_set ?_ GE210.out | refine below_set ?_ GE213.out) | exact HB.out)⟩⟩
                          case round =>
                            clear H'
                            try clear c1
                            try clear c2
                            try clear p2
                            try clear q2
                            try clear hx2
                            try clear c4
                            try clear c4b0
                            try clear c7
                            try clear c8
                            try clear c8b0
                            try clear c10
                            try clear c10b0
                            try clear c10b1
                            try clear c10b2
                            try clear c14
                            try clear c14b0
                            try clear c14b1
                            try clear c19
                            try clear c20
                            try clear c20b0
                            try clear c21
                            try clear c21b0
                            try clear p21
                            try clear q21
                            try clear hx21
                            try clear c24
                            try clear hcz11_0
                            try clear hcz11_1
                            try clear hcz11_2
                            try clear hcz13_0
                            try clear hcz13_1
                            try clear hcz13_2
                            try clear hcz15_0
                            try clear hcz15_1
                            try clear hcz15_2
                            try clear hcz17_0
                            try clear hcz17_1
                            try clear hcz17_2
                            try clear hcz22_0
                            try clear hcz22_1
                            try clear hcz22_2
                            try clear hcz25_0
                            try clear hcz25_1
                            try clear hcz25_2
                            try clear hcz25_3
                            try clear hcz25_4
                            try clear hcz5_0
                            try clear hcz5_1
                            try clear hcz5_2
                            try clear hcz6_0
                            try clear hcz6_1
                            try clear hcz6_2
                            try clear hcz9_0
                            try clear hcz9_1
                            try clear hcz9_2
                            try clear hfz11_0
                            try clear hfz11_1
                            try clear hfz11_2
                            try clear hfz13_0
                            try clear hfz13_1
                            try clear hfz13_2
                            try clear hfz15_0
                            try clear hfz15_1
                            try clear hfz15_2
                            try clear hfz17_0
                            try clear hfz17_1
                            try clear hfz17_2
                            try clear hfz22_0
                            try clear hfz22_1
                            try clear hfz22_2
                            try clear hfz25_0
                            try clear hfz25_1
                            try clear hfz25_2
                            try clear hfz25_3
                            try clear hfz25_4
                            try clear hfz5_0
                            try clear hfz5_1
                            try clear hfz5_2
                            try clear hfz6_0
                            try clear hfz6_1
                            try clear hfz6_2
                            try clear hfz9_0
                            try clear hfz9_1
                            try clear hfz9_2
                            try clear hx212_0
                            try clear hx212_1
                            try clear hx212_2
                            try clear hx212_3
                            try clear hx212_4
                            try clear p2
                            try clear p212
                            try clear q212
                            obtain ⟨x5_4, rfl, HA, HK4, BK210, BK213, HB⟩ := hrel
                            cases gk with
                            | zero => exact absurd HA.out (by simp [regcertref07_Check.l1])
                            | succ k4 =>
                              have H := HA.out
                              clear HA
                              simp only [regcertref07_Check.l1] at H
                              by_cases c26 : x5_4 < (((rd_T68 l0_2 x3_3).f0).length : Int)
                              · rw [if_pos c26] at H
                                have c26b0 : decide (x5_4 < (((rd_T68 l0_2 x3_3).f0).length : Int)) = true := decide_eq_true c26
                                clear c26
                                by_cases c27 : 0 ≤ x5_4
                                · rw [if_pos c27] at H
                                  have c27b0 : decide (0 ≤ x5_4) = true := decide_eq_true c27
                                  clear c27
                                  replace H := Option.bind_eq_some_iff.mp H
                                  obtain ⟨t215, A280, H⟩ := H
                                  replace H : (if t215 = 0 then (regcertref07_Check.l1 k4 x3_3 (wrap64 (x5_4 + 1)) a0_0 a0_1 l0_2 ((rd_T68 l0_2 x3_3).f0) ((rd_T68 l0_2 x3_3).f1.f0) ((rd_T68 l0_2 x3_3).f1.f1) ((rd_T68 l0_2 x3_3).f1.f2) ((rd_T68 l0_2 x3_3).f1.f3)) else (some t215)) = some r := H
                                  have A28 := Aside0.mk A280
                                  clear A280
                                  by_cases c29 : t215 = 0
                                  · rw [if_pos c29] at H
                                    have c29b0 : (t215 == 0) = true := beq_iff_eq.mpr c29
                                    have c29b1 : (t215 != 0) = false := bne_eq_false_iff_eq.mpr c29
                                    clear c29
                                    have H' := Aside0.mk H
                                    clear H
                                    have hnb30 := NB213_210.out
                                    have hnc30 := NB210_213.out
                                    have hcz31_0 : wr.cell? ⟨gb213, 0, none⟩ = some (.slice A212_0 ((rd_T68 l0_2 x3_3).f0).length c212_0) := (blk_cell BK213.out 0).trans rfl
                                    have hcz31_1 : wr.cell? ⟨gb213, 1, none⟩ = some (.int .i64 ((rd_T68 l0_2 x3_3).f1.f0)) := (blk_cell BK213.out 1).trans rfl
                                    have hcz31_2 : wr.cell? ⟨gb213, 2, none⟩ = some (.int .i64 ((rd_T68 l0_2 x3_3).f1.f1)) := (blk_cell BK213.out 2).trans rfl
                                    have hcz31_3 : wr.cell? ⟨gb213, 3, none⟩ = some (.int .i64 ((rd_T68 l0_2 x3_3).f1.f2)) := (blk_cell BK213.out 3).trans rfl
                                    have hcz31_4 : wr.cell? ⟨gb213, 4, none⟩ = some (.int .i64 ((rd_T68 l0_2 x3_3).f1.f3)) := (blk_cell BK213.out 4).trans rfl
                                    have hfz31_0 := blk_frozen BK213.out 0
                                    have hfz31_1 := blk_frozen BK213.out 1
                                    have hfz31_2 := blk_frozen BK213.out 2
                                    have hfz31_3 := blk_frozen BK213.out 3
                                    have hfz31_4 := blk_frozen BK213.out 4
                                    try go_wp2
                                    have n0_ := Aside0.mk (blk_drew BK210.out)
                                    have n1_ := Aside0.mk (blk_drew BK213.out)
                                    have n2_ := Aside0.mk (below_drew1 HB.out)
                                    clear BK210
                                    clear BK213
                                    clear HB
                                    have BK210 := n0_
                                    have BK213 := n1_
                                    have HB := n2_
                                    clear n0_ n1_ n2_
                                    have p214 : 0 ≤ (x5_4 : Int) := of_decide_eq_true (by first | (with_reducible assumption) | assumption)
                                    have q214 : x5_4 < (((rd_T68 l0_2 x3_3).f0).length : Int) := of_decide_eq_true (by first | (with_reducible assumption) | assumption)
                                    obtain ⟨ad214, e214, hx214_0, hx214_1, hx214_2, hx214_3, hx214_4⟩ := at_T52 HR212_0.out x5_4 p214 q214
                                    have hw214_4 := hx214_4
                                    have hw214_3 := hx214_3
                                    have hw214_2 := hx214_2
                                    have hw214_1 := hx214_1
                                    have hw214_0 := hx214_0
                                    cases e214
                                    replace hx214_0 := (HB.out.cell (World.block_lt_of_cell? w _ hx214_0)).trans hx214_0
                                    replace hx214_1 := (HB.out.cell (World.block_lt_of_cell? w _ hx214_1)).trans hx214_1
                                    replace hx214_2 := (HB.out.cell (World.block_lt_of_cell? w _ hx214_2)).trans hx214_2
                                    replace hx214_3 := (HB.out.cell (World.block_lt_of_cell? w _ hx214_3)).trans hx214_3
                                    replace hx214_4 := (HB.out.cell (World.block_lt_of_cell? w _ hx214_4)).trans hx214_4
                                    replace p214 := eq_true p214
                                    replace q214 := eq_true q214
                                    refine start_ (n := 9) (S := fun w' => w'.cell? ⟨gb213, 0, none⟩ = some (.slice (some ad214) ((rd_T68 l0_2 x3_3).f0).length c212_0) ∧ w'.cell? ⟨gb213, 1, none⟩ = some (.int .i64 ((rd_T68 l0_2 x3_3).f1.f0)) ∧ w'.cell? ⟨gb213, 2, none⟩ = some (.int .i64 ((rd_T68 l0_2 x3_3).f1.f1)) ∧ w'.cell? ⟨gb213, 3, none⟩ = some (.int .i64 ((rd_T68 l0_2 x3_3).f1.f2)) ∧ w'.cell? ⟨gb213, 4, none⟩ = some (.int .i64 ((rd_T68 l0_2 x3_3).f1.f3)) ∧ w'.cell? ⟨gb210, 0, none⟩ = some (.int .i64 a0_0) ∧ w'.cell? ⟨gb210, 1, none⟩ = some (.int .i64 a0_1) ∧ w'.cell? ⟨gb210, 2, none⟩ = some (.slice (some ad212) l0_2.length c0_2) ∧ w'.cell? (ad214.add ((x5_4).toNat * 5)) = some (.int .i64 ((rd_T52 ((rd_T68 l0_2 x3_3).f0) x5_4).f0)) ∧ w'.cell? ⟨(ad214.add ((x5_4).toNat * 5)).block, (ad214.add ((x5_4).toNat * 5)).off + 1, none⟩ = some (.int .i64 ((rd_T52 ((rd_T68 l0_2 x3_3).f0) x5_4).f1)) ∧ w'.cell? ⟨(ad214.add ((x5_4).toNat * 5)).block, (ad214.add ((x5_4).toNat * 5)).off + 2, none⟩ = some (.int .i64 ((rd_T52 ((rd_T68 l0_2 x3_3).f0) x5_4).f2)) ∧ w'.cell? ⟨(ad214.add ((x5_4).toNat * 5)).block, (ad214.add ((x5_4).toNat * 5)).off + 3, none⟩ = some (.int .i64 ((rd_T52 ((rd_T68 l0_2 x3_3).f0) x5_4).f3)) ∧ w'.cell? ⟨(ad214.add ((x5_4).toNat * 5)).block, (ad214.add ((x5_4).toNat * 5)).off + 4, none⟩ = some (.int .i64 ((rd_T52 ((rd_T68 l0_2 x3_3).f0) x5_4).f4))) (ds := []) #[false, false, false, false, false, false, false, false, false] (by kernel_rfl) rfl rfl ⟨(blk_cell BK213.out 0).trans rfl, (blk_cell BK213.out 1).trans rfl, (blk_cell BK213.out 2).trans rfl, (blk_cell BK213.out 3).trans rfl, (blk_cell BK213.out 4).trans rfl, (blk_cell BK210.out 0).trans rfl, (blk_cell BK210.out 1).trans rfl, (blk_cell BK210.out 2).trans rfl, ((HB.out.cell (World.block_lt_of_cell? w _ hw214_0)).trans hw214_0), ((HB.out.cell (World.block_lt_of_cell? w _ hw214_1)).trans hw214_1), ((HB.out.cell (World.block_lt_of_cell? w _ hw214_2)).trans hw214_2), ((HB.out.cell (World.block_lt_of_cell? w _ hw214_3)).trans hw214_3), ((HB.out.cell (World.block_lt_of_cell? w _ hw214_4)).trans hw214_4)⟩ (fun hHeld => ?_); refine with_tabW regcertref07_Check.tab16 regcertref07_Check.bits16 (fun HT_ HW_ => ?_)
                                    generalize wr.drew = w32 at BK210 BK213 HB hx214_0 hx214_1 hx214_2 hx214_3 hx214_4 hHeld ⊢
                                    refine pure_ (i := 0) (N := some 53) (v := ?_) (a' := ?_) #[true, false, false, false, false, false, false, false, false] rfl rfl (any_of HT_.out (by kernel_rfl)) (fun _ _ _ h => h) (Or.inl ⟨by rfl, ?_⟩) ?_ ?_
                                    rotate_left
                                    · intro w'
                                      go_simp
                                      with_reducible rfl
                                    rotate_left
                                    · simp only [Act.put, List.setIfInBounds_toArray, List.set_cons_zero, List.set_cons_succ, i64_w, i32_w]
                                      rfl
                                    refine pure_ (i := 2) (N := some 55) (v := ?_) (a' := ?_) #[true, false, true, false, false, false, false, false, false] rfl rfl (any_of HT_.out (by kernel_rfl)) (fun _ _ _ h => h) (Or.inl ⟨by rfl, ?_⟩) ?_ ?_
                                    rotate_left
                                    · intro w'
                                      go_simp
                                      with_reducible rfl
                                    rotate_left
                                    · simp only [Act.put, List.setIfInBounds_toArray, List.set_cons_zero, List.set_cons_succ, i64_w, i32_w]
                                      rfl
                                    refine pure_ (i := 5) (N := some 58) (v := ?_) (a' := ?_) #[true, false, true, false, false, true, false, false, false] rfl rfl (any_of HT_.out (by kernel_rfl)) (fun _ _ _ h => h) (Or.inl ⟨by rfl, ?_⟩) ?_ ?_
                                    rotate_left
                                    · intro w'
                                      go_simp
                                      with_reducible rfl
                                    rotate_left
                                    · simp only [Act.put, List.setIfInBounds_toArray, List.set_cons_zero, List.set_cons_succ, i64_w, i32_w]
                                      rfl
                                    refine take_ (i := 1) (N := some 54) (v := ?_) (a' := ?_) #[true, true, true, false, false, true, false, false, false] rfl rfl (take_ofW HT_.out HW_.out (by kernel_rfl)) (fun _ _ _ h => h) (Or.inl ⟨by rfl, ?_⟩) hHeld ?_ ?_
                                    rotate_left
                                    · rintro w' ⟨s0, s1, s2, s3, s4, s5, s6, s7, s8, s9, s10, s11, s12⟩
                                      go_simp
                                      with_reducible rfl
                                    rotate_left
                                    · simp only [Act.put, List.setIfInBounds_toArray, List.set_cons_zero, List.set_cons_succ, i64_w, i32_w]
                                      rfl
                                    refine pure_ (i := 3) (N := some 56) (v := ?_) (a' := ?_) #[true, true, true, true, false, true, false, false, false] rfl rfl (any_of HT_.out (by kernel_rfl)) (fun _ _ _ h => h) (Or.inl ⟨by rfl, ?_⟩) ?_ ?_
                                    rotate_left
                                    · intro w'
                                      go_simp
                                      with_reducible rfl
                                    rotate_left
                                    · simp only [Act.put, List.setIfInBounds_toArray, List.set_cons_zero, List.set_cons_succ, i64_w, i32_w]
                                      rfl
                                    refine take_ (i := 4) (N := some 57) (v := ?_) (a' := ?_) #[true, true, true, true, true, true, false, false, false] rfl rfl (take_ofW HT_.out HW_.out (by kernel_rfl)) (fun _ _ _ h => h) (Or.inl ⟨by rfl, ?_⟩) hHeld ?_ ?_
                                    rotate_left
                                    · rintro w' ⟨s0, s1, s2, s3, s4, s5, s6, s7, s8, s9, s10, s11, s12⟩
                                      go_simp
                                      with_reducible rfl
                                    rotate_left
                                    · simp only [Act.put, List.setIfInBounds_toArray, List.set_cons_zero, List.set_cons_succ, i64_w, i32_w]
                                      rfl
                                    refine take_ (i := 6) (N := some 59) (v := ?_) (a' := ?_) #[true, true, true, true, true, true, true, false, false] rfl rfl (take_ofW HT_.out HW_.out (by kernel_rfl)) (fun _ _ _ h => h) (Or.inl ⟨by rfl, ?_⟩) hHeld ?_ ?_
                                    rotate_left
                                    · rintro w' ⟨s0, s1, s2, s3, s4, s5, s6, s7, s8, s9, s10, s11, s12⟩
                                      go_simp
                                      with_reducible rfl
                                    rotate_left
                                    · simp only [Act.put, List.setIfInBounds_toArray, List.set_cons_zero, List.set_cons_succ, i64_w, i32_w]
                                      rfl
                                    refine one_ (i := 7) (N := some 60) #[true, true, true, true, true, true, true, true, false] rfl rfl (one_of HT_.out (by kernel_rfl)) (by decide) (fun K hK => ?_)
                                    refine goes_ Try.func31 (by kernel_rfl) rfl #[.agg #[.int .i64 ((rd_T52 ((rd_T68 l0_2 x3_3).f0) x5_4).f0), .int .i64 ((rd_T52 ((rd_T68 l0_2 x3_3).f0) x5_4).f1), .int .i64 ((rd_T52 ((rd_T68 l0_2 x3_3).f0) x5_4).f2), .int .i64 ((rd_T52 ((rd_T68 l0_2 x3_3).f0) x5_4).f3), .int .i64 ((rd_T52 ((rd_T68 l0_2 x3_3).f0) x5_4).f4)], .int .i64 a0_1] (by rfl) rfl rfl (by (try simp only [List.map_toArray, List.map_cons, List.map_nil]); first | done | rfl | (simp only [List.length_drop, List.length_take]; rfl)) ?_
                                    with_reducible refine (regcertref07_Instr.calls k4 ((rd_T52 ((rd_T68 l0_2 x3_3).f0) x5_4).f0) ((rd_T52 ((rd_T68 l0_2 x3_3).f0) x5_4).f1) ((rd_T52 ((rd_T68 l0_2 x3_3).f0) x5_4).f2) ((rd_T52 ((rd_T68 l0_2 x3_3).f0) x5_4).f3) ((rd_T52 ((rd_T68 l0_2 x3_3).f0) x5_4).f4) a0_1 t215 _ A28.out).mono ?_
                                    rintro e w33 ⟨rfl, hb⟩
                                    refine ⟨_, rfl, ?_⟩
                                    have n0_ := Aside0.mk (blk_below (g := gb210) (o := .cells #[.int .i64 a0_0, .int .i64 a0_1, .slice (some ad212) l0_2.length c0_2] 50 (0, 0)) (by (with_reducible repeat (first | refine blk_drewN ?_ _ | refine blk_drew ?_ | refine blk_alloc ?_ _)); exact BK210.out) hb)
                                    have n1_ := Aside0.mk (blk_below (g := gb213) (o := .cells #[.slice (some ad214) ((rd_T68 l0_2 x3_3).f0).length c212_0, .int .i64 ((rd_T68 l0_2 x3_3).f1.f0), .int .i64 ((rd_T68 l0_2 x3_3).f1.f1), .int .i64 ((rd_T68 l0_2 x3_3).f1.f2), .int .i64 ((rd_T68 l0_2 x3_3).f1.f3)] 68 (0, 0)) (by (with_reducible repeat (first | refine blk_drewN ?_ _ | refine blk_drew ?_ | refine blk_alloc ?_ _)); exact BK213.out) hb)
                                    have n2_ := Aside0.mk (below_step (by repeat (first | (with_reducible first | exact HB.out | apply below_alloc | apply pw_below_drewN | apply below_drew1 | refine below_set ?_ GE210.out | refine below_set ?_ GE213.out) | exact HB.out)) hb)
                                    clear BK210
                                    clear BK213
                                    clear HB
                                    have BK210 := n0_
                                    have BK213 := n1_
                                    have HB := n2_
                                    clear n0_ n1_ n2_
                                    (try clear hb)
                                    (try clear hb2)
                                    (try clear hk)
                                    (try clear hi)
                                    refine hK.out _ _ ⟨(blk_cell BK213.out 0).trans rfl, (blk_cell BK213.out 1).trans rfl, (blk_cell BK213.out 2).trans rfl, (blk_cell BK213.out 3).trans rfl, (blk_cell BK213.out 4).trans rfl, (blk_cell BK210.out 0).trans rfl, (blk_cell BK210.out 1).trans rfl, (blk_cell BK210.out 2).trans rfl, ((HB.out.cell (World.block_lt_of_cell? w _ hw214_0)).trans hw214_0), ((HB.out.cell (World.block_lt_of_cell? w _ hw214_1)).trans hw214_1), ((HB.out.cell (World.block_lt_of_cell? w _ hw214_2)).trans hw214_2), ((HB.out.cell (World.block_lt_of_cell? w _ hw214_3)).trans hw214_3), ((HB.out.cell (World.block_lt_of_cell? w _ hw214_4)).trans hw214_4)⟩ (fun hHeld => ?_)
                                    clear hK K
                                    refine norm_ (a' := ?_) ?_ ?_
                                    rotate_left
                                    · show Act.put _ (some 60) _ = _
                                      simp only [Act.put, List.setIfInBounds_toArray, List.set_cons_zero, List.set_cons_succ, i64_w, i32_w]
                                      rfl
                                    refine pure_ (i := 8) (N := some 6) (v := ?_) (a' := ?_) #[true, true, true, true, true, true, true, true, true] rfl rfl (any_of HT_.out (by kernel_rfl)) (fun _ _ _ h => h) (Or.inl ⟨by rfl, ?_⟩) ?_ ?_
                                    rotate_left
                                    · intro w'
                                      go_simp
                                      with_reducible rfl
                                    rotate_left
                                    · simp only [Act.put, List.setIfInBounds_toArray, List.set_cons_zero, List.set_cons_succ, i64_w, i32_w]
                                      rfl
                                    refine done_ (done_of HT_.out (by kernel_rfl)) ?_
                                    try go_wp2
                                    go_roundg k4
                                    case measure => have := HJ1.out; have := HJ11.out; have := HK3.out; have := HK4.out; omega
                                    case rel => exact ⟨(wrap64 (x5_4 + 1)), (by first | rfl | (simp; done) | (simp [*]; done)), H', ⟨by have := HJ1.out; have := HJ11.out; have := HK3.out; have := HK4.out; omega⟩, ⟨by (with_reducible repeat (first | refine blk_drewN ?_ _ | refine blk_drew ?_ | refine blk_alloc ?_ _)); exact BK210.out⟩, ⟨by (with_reducible repeat (first | refine blk_drewN ?_ _ | refine blk_drew ?_ | refine blk_alloc ?_ _)); exact BK213.out⟩, ⟨by repeat (first | (with_reducible first | exact HB.out | apply below_alloc | apply pw_below_drewN | apply below_drew1 | refine below_set ?_ GE210.out | refine below_set ?_ GE213.out) | exact HB.out)⟩⟩
                                  · rw [if_neg c29] at H
                                    have c29b0 : (t215 == 0) = false := beq_eq_false_iff_ne.mpr c29
                                    have c29b1 : (t215 != 0) = true := bne_iff_ne.mpr c29
                                    obtain rfl := Option.some.inj H
                                    have hnb34 := NB213_210.out
                                    have hnc34 := NB210_213.out
                                    have hcz35_0 : wr.cell? ⟨gb213, 0, none⟩ = some (.slice A212_0 ((rd_T68 l0_2 x3_3).f0).length c212_0) := (blk_cell BK213.out 0).trans rfl
                                    have hcz35_1 : wr.cell? ⟨gb213, 1, none⟩ = some (.int .i64 ((rd_T68 l0_2 x3_3).f1.f0)) := (blk_cell BK213.out 1).trans rfl
                                    have hcz35_2 : wr.cell? ⟨gb213, 2, none⟩ = some (.int .i64 ((rd_T68 l0_2 x3_3).f1.f1)) := (blk_cell BK213.out 2).trans rfl
                                    have hcz35_3 : wr.cell? ⟨gb213, 3, none⟩ = some (.int .i64 ((rd_T68 l0_2 x3_3).f1.f2)) := (blk_cell BK213.out 3).trans rfl
                                    have hcz35_4 : wr.cell? ⟨gb213, 4, none⟩ = some (.int .i64 ((rd_T68 l0_2 x3_3).f1.f3)) := (blk_cell BK213.out 4).trans rfl
                                    have hfz35_0 := blk_frozen BK213.out 0
                                    have hfz35_1 := blk_frozen BK213.out 1
                                    have hfz35_2 := blk_frozen BK213.out 2
                                    have hfz35_3 := blk_frozen BK213.out 3
                                    have hfz35_4 := blk_frozen BK213.out 4
                                    try go_wp2
                                    have n0_ := Aside0.mk (blk_drew BK210.out)
                                    have n1_ := Aside0.mk (blk_drew BK213.out)
                                    have n2_ := Aside0.mk (below_drew1 HB.out)
                                    clear BK210
                                    clear BK213
                                    clear HB
                                    have BK210 := n0_
                                    have BK213 := n1_
                                    have HB := n2_
                                    clear n0_ n1_ n2_
                                    have p214 : 0 ≤ (x5_4 : Int) := of_decide_eq_true (by first | (with_reducible assumption) | assumption)
                                    have q214 : x5_4 < (((rd_T68 l0_2 x3_3).f0).length : Int) := of_decide_eq_true (by first | (with_reducible assumption) | assumption)
                                    obtain ⟨ad214, e214, hx214_0, hx214_1, hx214_2, hx214_3, hx214_4⟩ := at_T52 HR212_0.out x5_4 p214 q214
                                    have hw214_4 := hx214_4
                                    have hw214_3 := hx214_3
                                    have hw214_2 := hx214_2
                                    have hw214_1 := hx214_1
                                    have hw214_0 := hx214_0
                                    cases e214
                                    replace hx214_0 := (HB.out.cell (World.block_lt_of_cell? w _ hx214_0)).trans hx214_0
                                    replace hx214_1 := (HB.out.cell (World.block_lt_of_cell? w _ hx214_1)).trans hx214_1
                                    replace hx214_2 := (HB.out.cell (World.block_lt_of_cell? w _ hx214_2)).trans hx214_2
                                    replace hx214_3 := (HB.out.cell (World.block_lt_of_cell? w _ hx214_3)).trans hx214_3
                                    replace hx214_4 := (HB.out.cell (World.block_lt_of_cell? w _ hx214_4)).trans hx214_4
                                    replace p214 := eq_true p214
                                    replace q214 := eq_true q214
                                    refine start_ (n := 9) (S := fun w' => w'.cell? ⟨gb213, 0, none⟩ = some (.slice (some ad214) ((rd_T68 l0_2 x3_3).f0).length c212_0) ∧ w'.cell? ⟨gb213, 1, none⟩ = some (.int .i64 ((rd_T68 l0_2 x3_3).f1.f0)) ∧ w'.cell? ⟨gb213, 2, none⟩ = some (.int .i64 ((rd_T68 l0_2 x3_3).f1.f1)) ∧ w'.cell? ⟨gb213, 3, none⟩ = some (.int .i64 ((rd_T68 l0_2 x3_3).f1.f2)) ∧ w'.cell? ⟨gb213, 4, none⟩ = some (.int .i64 ((rd_T68 l0_2 x3_3).f1.f3)) ∧ w'.cell? ⟨gb210, 0, none⟩ = some (.int .i64 a0_0) ∧ w'.cell? ⟨gb210, 1, none⟩ = some (.int .i64 a0_1) ∧ w'.cell? ⟨gb210, 2, none⟩ = some (.slice (some ad212) l0_2.length c0_2) ∧ w'.cell? (ad214.add ((x5_4).toNat * 5)) = some (.int .i64 ((rd_T52 ((rd_T68 l0_2 x3_3).f0) x5_4).f0)) ∧ w'.cell? ⟨(ad214.add ((x5_4).toNat * 5)).block, (ad214.add ((x5_4).toNat * 5)).off + 1, none⟩ = some (.int .i64 ((rd_T52 ((rd_T68 l0_2 x3_3).f0) x5_4).f1)) ∧ w'.cell? ⟨(ad214.add ((x5_4).toNat * 5)).block, (ad214.add ((x5_4).toNat * 5)).off + 2, none⟩ = some (.int .i64 ((rd_T52 ((rd_T68 l0_2 x3_3).f0) x5_4).f2)) ∧ w'.cell? ⟨(ad214.add ((x5_4).toNat * 5)).block, (ad214.add ((x5_4).toNat * 5)).off + 3, none⟩ = some (.int .i64 ((rd_T52 ((rd_T68 l0_2 x3_3).f0) x5_4).f3)) ∧ w'.cell? ⟨(ad214.add ((x5_4).toNat * 5)).block, (ad214.add ((x5_4).toNat * 5)).off + 4, none⟩ = some (.int .i64 ((rd_T52 ((rd_T68 l0_2 x3_3).f0) x5_4).f4))) (ds := []) #[false, false, false, false, false, false, false, false, false] (by kernel_rfl) rfl rfl ⟨(blk_cell BK213.out 0).trans rfl, (blk_cell BK213.out 1).trans rfl, (blk_cell BK213.out 2).trans rfl, (blk_cell BK213.out 3).trans rfl, (blk_cell BK213.out 4).trans rfl, (blk_cell BK210.out 0).trans rfl, (blk_cell BK210.out 1).trans rfl, (blk_cell BK210.out 2).trans rfl, ((HB.out.cell (World.block_lt_of_cell? w _ hw214_0)).trans hw214_0), ((HB.out.cell (World.block_lt_of_cell? w _ hw214_1)).trans hw214_1), ((HB.out.cell (World.block_lt_of_cell? w _ hw214_2)).trans hw214_2), ((HB.out.cell (World.block_lt_of_cell? w _ hw214_3)).trans hw214_3), ((HB.out.cell (World.block_lt_of_cell? w _ hw214_4)).trans hw214_4)⟩ (fun hHeld => ?_); refine with_tabW regcertref07_Check.tab16 regcertref07_Check.bits16 (fun HT_ HW_ => ?_)
                                    generalize wr.drew = w36 at BK210 BK213 HB hx214_0 hx214_1 hx214_2 hx214_3 hx214_4 hHeld ⊢
                                    refine pure_ (i := 0) (N := some 53) (v := ?_) (a' := ?_) #[true, false, false, false, false, false, false, false, false] rfl rfl (any_of HT_.out (by kernel_rfl)) (fun _ _ _ h => h) (Or.inl ⟨by rfl, ?_⟩) ?_ ?_
                                    rotate_left
                                    · intro w'
                                      go_simp
                                      with_reducible rfl
                                    rotate_left
                                    · simp only [Act.put, List.setIfInBounds_toArray, List.set_cons_zero, List.set_cons_succ, i64_w, i32_w]
                                      rfl
                                    refine pure_ (i := 2) (N := some 55) (v := ?_) (a' := ?_) #[true, false, true, false, false, false, false, false, false] rfl rfl (any_of HT_.out (by kernel_rfl)) (fun _ _ _ h => h) (Or.inl ⟨by rfl, ?_⟩) ?_ ?_
                                    rotate_left
                                    · intro w'
                                      go_simp
                                      with_reducible rfl
                                    rotate_left
                                    · simp only [Act.put, List.setIfInBounds_toArray, List.set_cons_zero, List.set_cons_succ, i64_w, i32_w]
                                      rfl
                                    refine pure_ (i := 5) (N := some 58) (v := ?_) (a' := ?_) #[true, false, true, false, false, true, false, false, false] rfl rfl (any_of HT_.out (by kernel_rfl)) (fun _ _ _ h => h) (Or.inl ⟨by rfl, ?_⟩) ?_ ?_
                                    rotate_left
                                    · intro w'
                                      go_simp
                                      with_reducible rfl
                                    rotate_left
                                    · simp only [Act.put, List.setIfInBounds_toArray, List.set_cons_zero, List.set_cons_succ, i64_w, i32_w]
                                      rfl
                                    refine take_ (i := 1) (N := some 54) (v := ?_) (a' := ?_) #[true, true, true, false, false, true, false, false, false] rfl rfl (take_ofW HT_.out HW_.out (by kernel_rfl)) (fun _ _ _ h => h) (Or.inl ⟨by rfl, ?_⟩) hHeld ?_ ?_
                                    rotate_left
                                    · rintro w' ⟨s0, s1, s2, s3, s4, s5, s6, s7, s8, s9, s10, s11, s12⟩
                                      go_simp
                                      with_reducible rfl
                                    rotate_left
                                    · simp only [Act.put, List.setIfInBounds_toArray, List.set_cons_zero, List.set_cons_succ, i64_w, i32_w]
                                      rfl
                                    refine pure_ (i := 3) (N := some 56) (v := ?_) (a' := ?_) #[true, true, true, true, false, true, false, false, false] rfl rfl (any_of HT_.out (by kernel_rfl)) (fun _ _ _ h => h) (Or.inl ⟨by rfl, ?_⟩) ?_ ?_
                                    rotate_left
                                    · intro w'
                                      go_simp
                                      with_reducible rfl
                                    rotate_left
                                    · simp only [Act.put, List.setIfInBounds_toArray, List.set_cons_zero, List.set_cons_succ, i64_w, i32_w]
                                      rfl
                                    refine take_ (i := 4) (N := some 57) (v := ?_) (a' := ?_) #[true, true, true, true, true, true, false, false, false] rfl rfl (take_ofW HT_.out HW_.out (by kernel_rfl)) (fun _ _ _ h => h) (Or.inl ⟨by rfl, ?_⟩) hHeld ?_ ?_
                                    rotate_left
                                    · rintro w' ⟨s0, s1, s2, s3, s4, s5, s6, s7, s8, s9, s10, s11, s12⟩
                                      go_simp
                                      with_reducible rfl
                                    rotate_left
                                    · simp only [Act.put, List.setIfInBounds_toArray, List.set_cons_zero, List.set_cons_succ, i64_w, i32_w]
                                      rfl
                                    refine take_ (i := 6) (N := some 59) (v := ?_) (a' := ?_) #[true, true, true, true, true, true, true, false, false] rfl rfl (take_ofW HT_.out HW_.out (by kernel_rfl)) (fun _ _ _ h => h) (Or.inl ⟨by rfl, ?_⟩) hHeld ?_ ?_
                                    rotate_left
                                    · rintro w' ⟨s0, s1, s2, s3, s4, s5, s6, s7, s8, s9, s10, s11, s12⟩
                                      go_simp
                                      with_reducible rfl
                                    rotate_left
                                    · simp only [Act.put, List.setIfInBounds_toArray, List.set_cons_zero, List.set_cons_succ, i64_w, i32_w]
                                      rfl
                                    refine one_ (i := 7) (N := some 60) #[true, true, true, true, true, true, true, true, false] rfl rfl (one_of HT_.out (by kernel_rfl)) (by decide) (fun K hK => ?_)
                                    refine goes_ Try.func31 (by kernel_rfl) rfl #[.agg #[.int .i64 ((rd_T52 ((rd_T68 l0_2 x3_3).f0) x5_4).f0), .int .i64 ((rd_T52 ((rd_T68 l0_2 x3_3).f0) x5_4).f1), .int .i64 ((rd_T52 ((rd_T68 l0_2 x3_3).f0) x5_4).f2), .int .i64 ((rd_T52 ((rd_T68 l0_2 x3_3).f0) x5_4).f3), .int .i64 ((rd_T52 ((rd_T68 l0_2 x3_3).f0) x5_4).f4)], .int .i64 a0_1] (by rfl) rfl rfl (by (try simp only [List.map_toArray, List.map_cons, List.map_nil]); first | done | rfl | (simp only [List.length_drop, List.length_take]; rfl)) ?_
                                    with_reducible refine (regcertref07_Instr.calls k4 ((rd_T52 ((rd_T68 l0_2 x3_3).f0) x5_4).f0) ((rd_T52 ((rd_T68 l0_2 x3_3).f0) x5_4).f1) ((rd_T52 ((rd_T68 l0_2 x3_3).f0) x5_4).f2) ((rd_T52 ((rd_T68 l0_2 x3_3).f0) x5_4).f3) ((rd_T52 ((rd_T68 l0_2 x3_3).f0) x5_4).f4) a0_1 t215 _ A28.out).mono ?_
                                    rintro e w37 ⟨rfl, hb⟩
                                    refine ⟨_, rfl, ?_⟩
                                    have n0_ := Aside0.mk (blk_below (g := gb210) (o := .cells #[.int .i64 a0_0, .int .i64 a0_1, .slice (some ad212) l0_2.length c0_2] 50 (0, 0)) (by (with_reducible repeat (first | refine blk_drewN ?_ _ | refine blk_drew ?_ | refine blk_alloc ?_ _)); exact BK210.out) hb)
                                    have n1_ := Aside0.mk (blk_below (g := gb213) (o := .cells #[.slice (some ad214) ((rd_T68 l0_2 x3_3).f0).length c212_0, .int .i64 ((rd_T68 l0_2 x3_3).f1.f0), .int .i64 ((rd_T68 l0_2 x3_3).f1.f1), .int .i64 ((rd_T68 l0_2 x3_3).f1.f2), .int .i64 ((rd_T68 l0_2 x3_3).f1.f3)] 68 (0, 0)) (by (with_reducible repeat (first | refine blk_drewN ?_ _ | refine blk_drew ?_ | refine blk_alloc ?_ _)); exact BK213.out) hb)
                                    have n2_ := Aside0.mk (below_step (by repeat (first | (with_reducible first | exact HB.out | apply below_alloc | apply pw_below_drewN | apply below_drew1 | refine below_set ?_ GE210.out | refine below_set ?_ GE213.out) | exact HB.out)) hb)
                                    clear BK210
                                    clear BK213
                                    clear HB
                                    have BK210 := n0_
                                    have BK213 := n1_
                                    have HB := n2_
                                    clear n0_ n1_ n2_
                                    (try clear hb)
                                    (try clear hb2)
                                    (try clear hk)
                                    (try clear hi)
                                    refine hK.out _ _ ⟨(blk_cell BK213.out 0).trans rfl, (blk_cell BK213.out 1).trans rfl, (blk_cell BK213.out 2).trans rfl, (blk_cell BK213.out 3).trans rfl, (blk_cell BK213.out 4).trans rfl, (blk_cell BK210.out 0).trans rfl, (blk_cell BK210.out 1).trans rfl, (blk_cell BK210.out 2).trans rfl, ((HB.out.cell (World.block_lt_of_cell? w _ hw214_0)).trans hw214_0), ((HB.out.cell (World.block_lt_of_cell? w _ hw214_1)).trans hw214_1), ((HB.out.cell (World.block_lt_of_cell? w _ hw214_2)).trans hw214_2), ((HB.out.cell (World.block_lt_of_cell? w _ hw214_3)).trans hw214_3), ((HB.out.cell (World.block_lt_of_cell? w _ hw214_4)).trans hw214_4)⟩ (fun hHeld => ?_)
                                    clear hK K
                                    refine norm_ (a' := ?_) ?_ ?_
                                    rotate_left
                                    · show Act.put _ (some 60) _ = _
                                      simp only [Act.put, List.setIfInBounds_toArray, List.set_cons_zero, List.set_cons_succ, i64_w, i32_w]
                                      rfl
                                    refine pure_ (i := 8) (N := some 6) (v := ?_) (a' := ?_) #[true, true, true, true, true, true, true, true, true] rfl rfl (any_of HT_.out (by kernel_rfl)) (fun _ _ _ h => h) (Or.inl ⟨by rfl, ?_⟩) ?_ ?_
                                    rotate_left
                                    · intro w'
                                      go_simp
                                      with_reducible rfl
                                    rotate_left
                                    · simp only [Act.put, List.setIfInBounds_toArray, List.set_cons_zero, List.set_cons_succ, i64_w, i32_w]
                                      rfl
                                    refine done_ (done_of HT_.out (by kernel_rfl)) ?_
                                    try go_wp2
                                    go_ret
                                    exact ⟨by first | rfl | (simp [errW_none, errW_some] <;> rfl) | (simp [*, errW_none, errW_some] <;> rfl), by repeat (first | (with_reducible first | exact HB.out | apply below_alloc | apply pw_below_drewN | apply below_drew1 | refine below_set ?_ GE210.out | refine below_set ?_ GE213.out) | exact HB.out)⟩
                                · rw [if_neg c27] at H
                                  exact absurd H (by simp)
                              · rw [if_neg c26] at H
                                have c26b0 : decide (x5_4 < (((rd_T68 l0_2 x3_3).f0).length : Int)) = false := decide_eq_false c26
                                clear c26
                                replace H := Option.bind_eq_some_iff.mp H
                                obtain ⟨t216, A380, H⟩ := H
                                replace H : (if t216 = 0 then (regcertref07_Check.l0 k4 (wrap64 (x3_3 + 1)) a0_0 a0_1 l0_2) else (some t216)) = some r := H
                                have A38 := Aside0.mk A380
                                clear A380
                                by_cases c39 : t216 = 0
                                · rw [if_pos c39] at H
                                  have c39b0 : (t216 == 0) = true := beq_iff_eq.mpr c39
                                  have c39b1 : (t216 != 0) = false := bne_eq_false_iff_eq.mpr c39
                                  clear c39
                                  have H' := Aside0.mk H
                                  clear H
                                  have hnb40 := NB213_210.out
                                  have hnc40 := NB210_213.out
                                  have hcz41_0 : wr.cell? ⟨gb213, 0, none⟩ = some (.slice A212_0 ((rd_T68 l0_2 x3_3).f0).length c212_0) := (blk_cell BK213.out 0).trans rfl
                                  have hcz41_1 : wr.cell? ⟨gb213, 1, none⟩ = some (.int .i64 ((rd_T68 l0_2 x3_3).f1.f0)) := (blk_cell BK213.out 1).trans rfl
                                  have hcz41_2 : wr.cell? ⟨gb213, 2, none⟩ = some (.int .i64 ((rd_T68 l0_2 x3_3).f1.f1)) := (blk_cell BK213.out 2).trans rfl
                                  have hcz41_3 : wr.cell? ⟨gb213, 3, none⟩ = some (.int .i64 ((rd_T68 l0_2 x3_3).f1.f2)) := (blk_cell BK213.out 3).trans rfl
                                  have hcz41_4 : wr.cell? ⟨gb213, 4, none⟩ = some (.int .i64 ((rd_T68 l0_2 x3_3).f1.f3)) := (blk_cell BK213.out 4).trans rfl
                                  have hfz41_0 := blk_frozen BK213.out 0
                                  have hfz41_1 := blk_frozen BK213.out 1
                                  have hfz41_2 := blk_frozen BK213.out 2
                                  have hfz41_3 := blk_frozen BK213.out 3
                                  have hfz41_4 := blk_frozen BK213.out 4
                                  have hcz42_0 : wr.cell? ⟨gb210, 0, none⟩ = some (.int .i64 a0_0) := (blk_cell BK210.out 0).trans rfl
                                  have hcz42_1 : wr.cell? ⟨gb210, 1, none⟩ = some (.int .i64 a0_1) := (blk_cell BK210.out 1).trans rfl
                                  have hcz42_2 : wr.cell? ⟨gb210, 2, none⟩ = some (.slice (some ad212) l0_2.length c0_2) := (blk_cell BK210.out 2).trans rfl
                                  have hfz42_0 := blk_frozen BK210.out 0
                                  have hfz42_1 := blk_frozen BK210.out 1
                                  have hfz42_2 := blk_frozen BK210.out 2
                                  go_wp2_with (first | ((with_reducible refine gate_callee (f := 33) rfl ?_); refine goesL_ (some 71) rfl rfl Try.func33 (by kernel_rfl) rfl #[.agg #[.int .i64 ((rd_T68 l0_2 x3_3).f1.f0), .int .i64 ((rd_T68 l0_2 x3_3).f1.f1), .int .i64 ((rd_T68 l0_2 x3_3).f1.f2), .int .i64 ((rd_T68 l0_2 x3_3).f1.f3)], .int .i64 a0_1, .int .i64 (l0_2.length : Int)] rfl (by (try simp only [List.map_toArray, List.map_cons, List.map_nil]); first | done | rfl | (simp only [List.length_drop, List.length_take]; rfl)) ?_; (with_reducible refine (regcertref07_Term.calls ((rd_T68 l0_2 x3_3).f1.f0) ((rd_T68 l0_2 x3_3).f1.f1) ((rd_T68 l0_2 x3_3).f1.f2) ((rd_T68 l0_2 x3_3).f1.f3) a0_1 (l0_2.length : Int) t216 _ A38.out).mono ?_); rintro e w43 ⟨rfl, hb⟩; refine ⟨_, rfl, ?_⟩; have n0_ := Aside0.mk (blk_below (g := gb210) (o := .cells #[.int .i64 a0_0, .int .i64 a0_1, .slice (some ad212) l0_2.length c0_2] 50 (0, 0)) (by (with_reducible repeat (first | refine blk_drewN ?_ _ | refine blk_drew ?_ | refine blk_alloc ?_ _)); exact BK210.out) hb); have n1_ := Aside0.mk (blk_below (g := gb213) (o := .cells #[.slice A212_0 ((rd_T68 l0_2 x3_3).f0).length c212_0, .int .i64 ((rd_T68 l0_2 x3_3).f1.f0), .int .i64 ((rd_T68 l0_2 x3_3).f1.f1), .int .i64 ((rd_T68 l0_2 x3_3).f1.f2), .int .i64 ((rd_T68 l0_2 x3_3).f1.f3)] 68 (0, 0)) (by (with_reducible repeat (first | refine blk_drewN ?_ _ | refine blk_drew ?_ | refine blk_alloc ?_ _)); exact BK213.out) hb); have n2_ := Aside0.mk (below_step (by repeat (first | (with_reducible first | exact HB.out | apply below_alloc | apply pw_below_drewN | apply below_drew1 | refine below_set ?_ GE210.out | refine below_set ?_ GE213.out) | exact HB.out)) hb); clear BK210; clear BK213; clear HB; have BK210 := n0_; have BK213 := n1_; have HB := n2_; clear n0_ n1_ n2_; (try clear hb); (try clear hb2); (try clear hk); (try clear hi)))
                                  go_roundg k4
                                  case measure => have := HJ1.out; have := HJ11.out; have := HK3.out; have := HK4.out; omega
                                  case rel => exact ⟨(wrap64 (x3_3 + 1)), (by first | rfl | (simp; done) | (simp [*]; done)), H', ⟨by have := HJ1.out; have := HJ11.out; have := HK3.out; have := HK4.out; omega⟩, ⟨by (with_reducible repeat (first | refine blk_drewN ?_ _ | refine blk_drew ?_ | refine blk_alloc ?_ _)); exact BK210.out⟩, ⟨by repeat (first | (with_reducible first | exact HB.out | apply below_alloc | apply pw_below_drewN | apply below_drew1 | refine below_set ?_ GE210.out | refine below_set ?_ GE213.out) | exact HB.out)⟩⟩
                                · rw [if_neg c39] at H
                                  have c39b0 : (t216 == 0) = false := beq_eq_false_iff_ne.mpr c39
                                  have c39b1 : (t216 != 0) = true := bne_iff_ne.mpr c39
                                  obtain rfl := Option.some.inj H
                                  have hnb44 := NB213_210.out
                                  have hnc44 := NB210_213.out
                                  have hcz45_0 : wr.cell? ⟨gb213, 0, none⟩ = some (.slice A212_0 ((rd_T68 l0_2 x3_3).f0).length c212_0) := (blk_cell BK213.out 0).trans rfl
                                  have hcz45_1 : wr.cell? ⟨gb213, 1, none⟩ = some (.int .i64 ((rd_T68 l0_2 x3_3).f1.f0)) := (blk_cell BK213.out 1).trans rfl
                                  have hcz45_2 : wr.cell? ⟨gb213, 2, none⟩ = some (.int .i64 ((rd_T68 l0_2 x3_3).f1.f1)) := (blk_cell BK213.out 2).trans rfl
                                  have hcz45_3 : wr.cell? ⟨gb213, 3, none⟩ = some (.int .i64 ((rd_T68 l0_2 x3_3).f1.f2)) := (blk_cell BK213.out 3).trans rfl
                                  have hcz45_4 : wr.cell? ⟨gb213, 4, none⟩ = some (.int .i64 ((rd_T68 l0_2 x3_3).f1.f3)) := (blk_cell BK213.out 4).trans rfl
                                  have hfz45_0 := blk_frozen BK213.out 0
                                  have hfz45_1 := blk_frozen BK213.out 1
                                  have hfz45_2 := blk_frozen BK213.out 2
                                  have hfz45_3 := blk_frozen BK213.out 3
                                  have hfz45_4 := blk_frozen BK213.out 4
                                  have hcz46_0 : wr.cell? ⟨gb210, 0, none⟩ = some (.int .i64 a0_0) := (blk_cell BK210.out 0).trans rfl
                                  have hcz46_1 : wr.cell? ⟨gb210, 1, none⟩ = some (.int .i64 a0_1) := (blk_cell BK210.out 1).trans rfl
                                  have hcz46_2 : wr.cell? ⟨gb210, 2, none⟩ = some (.slice (some ad212) l0_2.length c0_2) := (blk_cell BK210.out 2).trans rfl
                                  have hfz46_0 := blk_frozen BK210.out 0
                                  have hfz46_1 := blk_frozen BK210.out 1
                                  have hfz46_2 := blk_frozen BK210.out 2
                                  go_wp2_with (first | ((with_reducible refine gate_callee (f := 33) rfl ?_); refine goesL_ (some 71) rfl rfl Try.func33 (by kernel_rfl) rfl #[.agg #[.int .i64 ((rd_T68 l0_2 x3_3).f1.f0), .int .i64 ((rd_T68 l0_2 x3_3).f1.f1), .int .i64 ((rd_T68 l0_2 x3_3).f1.f2), .int .i64 ((rd_T68 l0_2 x3_3).f1.f3)], .int .i64 a0_1, .int .i64 (l0_2.length : Int)] rfl (by (try simp only [List.map_toArray, List.map_cons, List.map_nil]); first | done | rfl | (simp only [List.length_drop, List.length_take]; rfl)) ?_; (with_reducible refine (regcertref07_Term.calls ((rd_T68 l0_2 x3_3).f1.f0) ((rd_T68 l0_2 x3_3).f1.f1) ((rd_T68 l0_2 x3_3).f1.f2) ((rd_T68 l0_2 x3_3).f1.f3) a0_1 (l0_2.length : Int) t216 _ A38.out).mono ?_); rintro e w47 ⟨rfl, hb⟩; refine ⟨_, rfl, ?_⟩; have n0_ := Aside0.mk (blk_below (g := gb210) (o := .cells #[.int .i64 a0_0, .int .i64 a0_1, .slice (some ad212) l0_2.length c0_2] 50 (0, 0)) (by (with_reducible repeat (first | refine blk_drewN ?_ _ | refine blk_drew ?_ | refine blk_alloc ?_ _)); exact BK210.out) hb); have n1_ := Aside0.mk (blk_below (g := gb213) (o := .cells #[.slice A212_0 ((rd_T68 l0_2 x3_3).f0).length c212_0, .int .i64 ((rd_T68 l0_2 x3_3).f1.f0), .int .i64 ((rd_T68 l0_2 x3_3).f1.f1), .int .i64 ((rd_T68 l0_2 x3_3).f1.f2), .int .i64 ((rd_T68 l0_2 x3_3).f1.f3)] 68 (0, 0)) (by (with_reducible repeat (first | refine blk_drewN ?_ _ | refine blk_drew ?_ | refine blk_alloc ?_ _)); exact BK213.out) hb); have n2_ := Aside0.mk (below_step (by repeat (first | (with_reducible first | exact HB.out | apply below_alloc | apply pw_below_drewN | apply below_drew1 | refine below_set ?_ GE210.out | refine below_set ?_ GE213.out) | exact HB.out)) hb); clear BK210; clear BK213; clear HB; have BK210 := n0_; have BK213 := n1_; have HB := n2_; clear n0_ n1_ n2_; (try clear hb); (try clear hb2); (try clear hk); (try clear hi)))
                                  go_ret
                                  exact ⟨by first | rfl | (simp [errW_none, errW_some] <;> rfl) | (simp [*, errW_none, errW_some] <;> rfl), by repeat (first | (with_reducible first | exact HB.out | apply below_alloc | apply pw_below_drewN | apply below_drew1 | refine below_set ?_ GE210.out | refine below_set ?_ GE213.out) | exact HB.out)⟩
                        · rw [if_neg c21] at H
                          exact absurd H (by simp)
                      · rw [if_neg c20] at H
                        have c20b0 : decide (x3_3 < (l0_2.length : Int)) = false := decide_eq_false c20
                        clear c20
                        obtain rfl := Option.some.inj H
                        have hcz48_0 : wr.cell? ⟨gb210, 0, none⟩ = some (.int .i64 a0_0) := (blk_cell BK210.out 0).trans rfl
                        have hcz48_1 : wr.cell? ⟨gb210, 1, none⟩ = some (.int .i64 a0_1) := (blk_cell BK210.out 1).trans rfl
                        have hcz48_2 : wr.cell? ⟨gb210, 2, none⟩ = some (.slice A0_2 l0_2.length c0_2) := (blk_cell BK210.out 2).trans rfl
                        have hfz48_0 := blk_frozen BK210.out 0
                        have hfz48_1 := blk_frozen BK210.out 1
                        have hfz48_2 := blk_frozen BK210.out 2
                        go_wp2
                        go_ret
                        exact ⟨by first | rfl | (simp [errW_none, errW_some] <;> rfl) | (simp [*, errW_none, errW_some] <;> rfl), by repeat (first | (with_reducible first | exact HB.out | apply below_alloc | apply pw_below_drewN | apply below_drew1 | refine below_set ?_ GE210.out) | exact HB.out)⟩
end Go.Proofs.Ytndbpljldmnkcaa.PSourceMatchesReference
