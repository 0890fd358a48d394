/- A move between two locations is valid exactly if both are in range and at least one is a register. No condition. -/
import Derived.Test.YtihnbkoeaaepiaaLT
import Derived.Test.YtihnbkoeaaepiaaSayMachineMoves
namespace Go.Proofs.Ytihnbkoeaaepiaa.LMachineMoves
open Go.RowKit Go.Proofs.Ytihnbkoeaaepiaa.PMachineMoves Go.Proofs.YtihnbkoeaaepiaaW.PrintWords Go.Proofs.YtihnbkoeaaepiaaW.PrintLast Go.Proofs.Ytihnbkoeaaepiaa.LT

theorem awake_is (k : Nat) (hk : 400 ≤ k) : regcertlaw08_awake.f k = some true := at_rounds regcertlaw08_awake.mono hk (show regcertlaw08_awake.f 400 = some true from by decide +kernel)
/-- Is a location in range? -/
def good (a r s : Int) : Bool := decide (0 ≤ a ∧ (a % 2 = 0 ∧ a / 2 < r ∨ a % 2 = 1 ∧ a / 2 < s))
theorem slot_is (a : Int) : location_IsSlot.f a = some (decide (Int.tmod a 2 = 1)) := rfl
theorem inRange_is (a r s : Int) (ha : a ≤ 9223372036854775807) : location_InRange.f a r s = some (good a r s) := by
  unfold location_InRange.f
  rw [slot_is]
  unfold location_Index.f
  simp only [Option.bind_some, decide_eq_true_eq]
  by_cases h0 : 0 ≤ a
  · rw [Int.tmod_eq_emod_of_nonneg h0, Int.tdiv_eq_ediv_of_nonneg h0, w64 _ (by omega) (by omega)]
    by_cases c : a % 2 = 1
    · rw [if_pos c, if_pos h0]
      congr 1
      unfold good
      rw [decide_eq_decide]
      omega
    · rw [if_neg c, if_pos h0]
      congr 1
      unfold good
      rw [decide_eq_decide]
      omega
  · have hg : good a r s = false := by
      unfold good
      rw [decide_eq_false_iff_not]
      omega
    rw [if_neg h0, if_neg h0, ite_self, hg]

end Go.Proofs.Ytihnbkoeaaepiaa.LMachineMoves
namespace Go.Proofs.Ytihnbkoeaaepiaa.Pure
open Go.RowKit Go.Proofs.Ytihnbkoeaaepiaa.PMachineMoves Go.Proofs.YtihnbkoeaaepiaaW.PrintWords Go.Proofs.YtihnbkoeaaepiaaW.PrintLast Go.Proofs.Ytihnbkoeaaepiaa.LT Go.Proofs.Ytihnbkoeaaepiaa.LMachineMoves

theorem both_slots (a b : Int) : location_IsSlot.f a = some (decide (Int.tmod a 2 = 1)) ∧ location_IsSlot.f b = some (decide (Int.tmod b 2 = 1)) := ⟨rfl, rfl⟩
theorem instr_is (imm d s r t : Int) (hd : d ≤ 9223372036854775807) (hs : s ≤ 9223372036854775807) (k : Nat) (hk : 5 ≤ k) :
    machine_Instr.f k 18 0 0 0 imm d s r t = some (if (good d r t = true ∧ good s r t = true) ∧ ¬ (d % 2 = 1 ∧ s % 2 = 1) then (if imm = 0 then 0 else 12) else 10) := by
  obtain ⟨k, rfl⟩ : ∃ m, k = m + 1 := ⟨k - 1, by omega⟩
  have hj : ∀ b : Bool, machine_moves_1.j0 (k + 1) r t b 18 0 0 0 imm d s = some (if b = true then 10 else if good d r t = true then (if good s r t = true then 0 else 10) else 10) := by
    intro b
    generalize hn : k + 1 = n
    subst hn
    simp only [machine_moves_1.j0]
    rw [inRange_is d r t hd, inRange_is s r t hs]
    cases b
    · cases good d r t <;> cases good s r t <;> rfl
    · rfl
  have hm : machine_moves_1.f (k + 1) 18 0 0 0 imm d s r t = some (if Int.tmod d 2 = 1 ∧ Int.tmod s 2 = 1 then 10 else if good d r t = true then (if good s r t = true then 0 else 10) else 10) := by
    unfold machine_moves_1.f
    rw [slot_is, slot_is]
    simp only [Option.bind_some, decide_eq_true_eq]
    by_cases c1 : Int.tmod d 2 = 1
    · rw [if_pos c1, hj]
      by_cases c2 : Int.tmod s 2 = 1
      · rw [if_pos (decide_eq_true c2), if_pos ⟨c1, c2⟩]
      · simp [c2]
    · rw [if_neg c1, hj]; simp [c1]
  have h2 : machine_moves_2.f 18 0 0 0 imm d s = some (decide (imm = 0)) := rfl
  have ho : opcode_Machine.f 18 = some true := by decide +kernel
  unfold machine_Instr.f
  rw [ho, hm, h2]
  simp only [Option.bind_some, if_true, decide_eq_true_eq]
  by_cases g1 : good d r t = true
  · by_cases g2 : good s r t = true
    · have e1 : 0 ≤ d := by unfold good at g1; rw [decide_eq_true_eq] at g1; exact g1.1
      have e2 : 0 ≤ s := by unfold good at g2; rw [decide_eq_true_eq] at g2; exact g2.1
      rw [Int.tmod_eq_emod_of_nonneg e1, Int.tmod_eq_emod_of_nonneg e2]
      by_cases c : d % 2 = 1 ∧ s % 2 = 1
      · have hc : ¬ ((good d r t = true ∧ good s r t = true) ∧ ¬ (d % 2 = 1 ∧ s % 2 = 1)) := fun h => h.2 c
        rw [if_pos c, if_neg hc, if_neg (show ¬ (10 : Int) = 0 by decide)]
      · have hc : (good d r t = true ∧ good s r t = true) ∧ ¬ (d % 2 = 1 ∧ s % 2 = 1) := ⟨⟨g1, g2⟩, c⟩
        rw [if_neg c, if_pos g1, if_pos g2, if_pos hc, if_pos (show (0 : Int) = 0 from rfl)]
        by_cases ci : imm = 0
        · rw [if_pos ci, if_pos ci]
        · rw [if_neg ci, if_neg ci]
    · have hc : ¬ ((good d r t = true ∧ good s r t = true) ∧ ¬ (d % 2 = 1 ∧ s % 2 = 1)) := fun h => g2 h.1.2
      rw [if_pos g1, if_neg g2, ite_self, if_neg hc, if_neg (show ¬ (10 : Int) = 0 by decide)]
  · have hc : ¬ ((good d r t = true ∧ good s r t = true) ∧ ¬ (d % 2 = 1 ∧ s % 2 = 1)) := fun h => g1 h.1.1
    rw [if_neg g1, ite_self, if_neg hc, if_neg (show ¬ (10 : Int) = 0 by decide)]
theorem cond_is (G : Bool → Option Bool) (a r s : Int) (ha : -40000 ≤ a ∧ a ≤ 40000) (hr : 0 ≤ r ∧ r ≤ 255) (hs : 0 ≤ s ∧ s ≤ 255) :
    (if a ≥ 0 then (if Int.tmod a 2 = 0 then (if wrap64 (Int.tdiv (wrap64 a) 2) < wrap64 r then G true else (if Int.tmod a 2 = 1 then G (decide (wrap64 (Int.tdiv (wrap64 a) 2) < wrap64 s)) else G false)) else (if Int.tmod a 2 = 1 then G (decide (wrap64 (Int.tdiv (wrap64 a) 2) < wrap64 s)) else G false)) else G false) = G (good a r s) := by
  by_cases h0 : a ≥ 0
  · rw [if_pos h0, Int.tmod_eq_emod_of_nonneg h0, w64 a (by omega) (by omega), Int.tdiv_eq_ediv_of_nonneg h0, w64 (a / 2) (by omega) (by omega), w64 r (by omega) (by omega), w64 s (by omega) (by omega)]
    by_cases c : a % 2 = 0
    · rw [if_pos c]
      by_cases c2 : a / 2 < r
      · rw [if_pos c2]
        congr 1
        exact (decide_eq_true (by omega)).symm
      · rw [if_neg c2, if_neg (by omega)]
        congr 1
        exact (decide_eq_false (by omega)).symm
    · rw [if_neg c, if_pos (by omega)]
      congr 1
      unfold good
      rw [decide_eq_decide]
      omega
  · rw [if_neg h0]
    congr 1
    exact (decide_eq_false (by omega)).symm
theorem j1_is (a b r s : Int) (ha : -40000 ≤ a ∧ a ≤ 40000) (hb : -40000 ≤ b ∧ b ≤ 40000) (hr : 0 ≤ r ∧ r ≤ 255) (hs : 0 ≤ s ∧ s ≤ 255) (k : Nat) (hk : 20 ≤ k) :
    regcertlaw08_MachineMoves.j1 k a b r s (good a r s) (good b r s) 18 0 0 0 0 (wrap64 a) (wrap64 b) = some true := by
  obtain ⟨k, rfl⟩ : ∃ m, k = m + 1 := ⟨k - 1, by omega⟩
  simp only [regcertlaw08_MachineMoves.j1]
  rw [w64 a (by omega) (by omega), w64 b (by omega) (by omega), w64 r (by omega) (by omega), w64 s (by omega) (by omega), instr_is 0 a b r s (by omega) (by omega) k (by omega), instr_is 1 a b r s (by omega) (by omega) k (by omega)]
  simp only [Option.bind_some]
  by_cases g1 : good a r s = true
  · by_cases g2 : good b r s = true
    · have e1 : 0 ≤ a := by unfold good at g1; rw [decide_eq_true_eq] at g1; exact g1.1
      have e2 : 0 ≤ b := by unfold good at g2; rw [decide_eq_true_eq] at g2; exact g2.1
      rw [Int.tmod_eq_emod_of_nonneg e1, Int.tmod_eq_emod_of_nonneg e2, if_pos g1, if_pos g2]
      by_cases c : a % 2 = 1 ∧ b % 2 = 1
      · have hc : ¬ ((good a r s = true ∧ good b r s = true) ∧ ¬ (a % 2 = 1 ∧ b % 2 = 1)) := fun h => h.2 c
        rw [if_neg (show ¬ a % 2 = 0 by omega), if_neg (show ¬ b % 2 = 0 by omega), if_neg hc]
        rfl
      · have hc : (good a r s = true ∧ good b r s = true) ∧ ¬ (a % 2 = 1 ∧ b % 2 = 1) := ⟨⟨g1, g2⟩, c⟩
        simp only [if_pos hc]
        by_cases c1 : a % 2 = 0
        · rw [if_pos c1]; rfl
        · rw [if_neg c1, if_pos (show b % 2 = 0 by omega)]; rfl
    · have hc : ¬ ((good a r s = true ∧ good b r s = true) ∧ ¬ (a % 2 = 1 ∧ b % 2 = 1)) := fun h => g2 h.1.2
      rw [if_pos g1, if_neg g2, if_neg hc]; rfl
  · have hc : ¬ ((good a r s = true ∧ good b r s = true) ∧ ¬ (a % 2 = 1 ∧ b % 2 = 1)) := fun h => g1 h.1.1
    rw [if_neg g1, if_neg hc]; rfl
theorem MachineMoves : regcertlaw08_MachineMoves.Pure := by
  intro a b r s ha hb hr hs
  have ha : -40000 ≤ a ∧ a ≤ 40000 := by
    simp [Lit.wf, IntKind.min, IntKind.max, IntKind.signed, IntKind.bits] at ha
    omega
  have hb : -40000 ≤ b ∧ b ≤ 40000 := by
    simp [Lit.wf, IntKind.min, IntKind.max, IntKind.signed, IntKind.bits] at hb
    omega
  have hr : 0 ≤ r ∧ r ≤ 255 := by
    simp [Lit.wf, IntKind.min, IntKind.max, IntKind.signed, IntKind.bits] at hr
    omega
  have hs : 0 ≤ s ∧ s ≤ 255 := by
    simp [Lit.wf, IntKind.min, IntKind.max, IntKind.signed, IntKind.bits] at hs
    omega
  have hj0 : ∀ c, regcertlaw08_MachineMoves.j0 (499 + 1) a b r s c 18 0 0 0 0 (wrap64 a) (wrap64 b) = regcertlaw08_MachineMoves.j1 499 a b r s c (good b r s) 18 0 0 0 0 (wrap64 a) (wrap64 b) := by
    intro c
    unfold regcertlaw08_MachineMoves.j0
    exact cond_is (fun d => regcertlaw08_MachineMoves.j1 499 a b r s c d 18 0 0 0 0 (wrap64 a) (wrap64 b)) b r s hb hr hs
  refine ⟨499 + 1, ?_⟩
  unfold regcertlaw08_MachineMoves.f
  rw [awake_is (499 + 1) (by decide)]
  simp only [Option.bind_some, if_true]
  refine (cond_is (fun d => regcertlaw08_MachineMoves.j0 (499 + 1) a b r s d 18 0 0 0 0 (wrap64 a) (wrap64 b)) a r s ha hr hs).trans ?_
  exact (hj0 _).trans (j1_is a b r s ha hb hr hs 499 (by decide))

end Go.Proofs.Ytihnbkoeaaepiaa.Pure
