/- An instruction of a machine is read: one of the shapes. -/
import Derived.Test.YtchebkpcgglllaaGreatIn4a
namespace Go.Proofs.YtchebkpcgglllaaGreat.Cu
open Go Go.SX Go.Proofs.YtchebkpcgglllaaGreat.VT
set_option maxRecDepth 100000
set_option linter.unusedVariables false
set_option linter.unusedSimpArgs false

set_option maxHeartbeats 8000000 in
theorem mach_2 {G : Gh} {A : Option Addr} {bs : List Int} {c : Nat} {p : Ps} (regs slots : Int) (h : CurOK G A c bs p) (hr : 0 ≤ regs ∧ regs ≤ 9223372036854775807) (hcase : (sByte p).1 ≠ 18)
    (hsh : decide (uD (sByte p).1) = true ∧ decide (uA (sByte p).1) = true ∧ decide (uB (sByte p).1) = false ∧ decide ((sByte p).1 = 1) = false) :
    Ct Tryz.prog 74 [.p 0 0, .v (.int .i64 regs), .v (.int .i64 slots)] [curL A bs c p] G fun sv H' G' => sv = (sMac regs slots p).1.sv ∧ H' = [curL A bs c (sMac regs slots p).2] ∧ G' = G := by
  have hbr := sByte_range h.isb
  obtain ⟨op, hop⟩ : ∃ op, op = (sByte p).1 := ⟨_, rfl⟩
  rw [← hop] at hcase hsh
  obtain ⟨q, hq⟩ : ∃ q, q = (sFirst machOp 8 p).2 := ⟨_, rfl⟩
  have hc : CurOK G A c bs q := hq ▸ h.next (sFirst_suf _ _ _)
  have hop1 : (sFirst machOp 8 p).1 = op := hop.symm
  obtain ⟨e1, e2, e3, e4⟩ := hsh
  have hfin : ∀ d a b i r, sFlds op regs q = ((d, a, b, i), r) → sMac regs slots p = (if r.2 = 0 then ⟨op, d, a, b, i, 0, 0⟩ else mac0, r) := by
    intro d a b i r hf
    simp only [sMac, hop1, ← hq, hf, if_neg hcase]
  have hfl : sFlds op regs q = sFlds op regs q := rfl
  conv at hfl => rhs; unfold sFlds
  generalize sFlds op regs q = fl at hfl hfin
  rw [e1, e2, e3, e4] at hfl
  simp only [optN, optI] at hfl
  refine fn_of follows [(14, (.cons 0 [] (.cons 1 [] (.cons 2 [] (.cons 3 [] (.cons 4 [] (.cons 5 [] (.cons 6 [] (.cons 7 [] (.cons 8 [] (.cons 9 [1] .nil)))))))))))] Tryz.func74 rfl rfl fun E hE => ?_
  repeat' ((fail_if_success with_reducible refine Stop.mk ?_);(conv=>whnf);with_reducible refine stop ?_)
  all_goals refine Stop.mk ?_
  refine call_fn [0] (pbyte_fn h) rfl ⟨rfl, trivial⟩ (by decide) ?_
  rintro sv H' G' ⟨rfl, rfl, rfl⟩ -
  refine ⟨Nat.le_of_ble_eq_true rfl, ?_⟩
  repeat' ((fail_if_success with_reducible refine Stop.mk ?_);(conv=>whnf);with_reducible refine stop ?_)
  all_goals refine Stop.mk ?_
  rw [i64_in (n := (sByte p).1) (by omega) (by omega), ← hop]
  refine call_fn [] (machine_fn _ op) rfl trivial (by decide) ?_
  rintro sv H' G' ⟨rfl, rfl, rfl⟩ -
  refine ⟨Nat.le_of_ble_eq_true rfl, ?_⟩
  repeat' ((fail_if_success with_reducible refine Stop.mk ?_);(conv=>whnf);first|with_reducible refine br_not ?_|((with_reducible refine br_d (fun h=>?_) fun h=>?_) <;> try (exfalso; omega))|((with_reducible refine br_e (fun h=>?_) fun h=>?_) <;> try (exfalso; omega))|with_reducible refine stop ?_)
  all_goals refine Stop.mk ?_
  all_goals try
    refine call_fn [0] (pfail_fn 8 (p := (sByte p).2)) rfl ⟨rfl, trivial⟩ (by decide) ?_
    rintro sv H' G' ⟨rfl, rfl, rfl⟩ -
    refine ⟨Nat.le_of_ble_eq_true rfl, ?_⟩
    repeat' ((fail_if_success with_reducible refine Stop.mk ?_);(conv=>whnf);first|((with_reducible refine br_e (fun h=>?_) fun h=>?_) <;> try (exfalso; omega))|with_reducible refine stop ?_)
    all_goals refine Stop.mk ?_
  all_goals try
    have hq' : sFail 8 (sByte p).2 = q := by rw [hq]; unfold sFirst machOp; rw [← hop]; simp only [decide_eq_true_iff]; rw [if_neg (by assumption)]
    rw [hq']
  all_goals try
    have hq' : (sByte p).2 = q := by rw [hq]; unfold sFirst machOp; rw [← hop]; simp only [decide_eq_true_iff]; rw [if_pos (by assumption)]
    rw [hq']
  all_goals
    refine call_fn [] (of_fn _ op) rfl trivial (by decide) ?_
    rintro sv H' G' ⟨rfl, rfl, rfl⟩ -
    refine ⟨Nat.zero_le _, ?_⟩
    rw [e1, e2, e3, e4]
    repeat' ((fail_if_success with_reducible refine Stop.mk ?_);(conv=>whnf);with_reducible refine stop ?_)
    all_goals refine Stop.mk ?_
    refine loop_unroll follows [(14, (.cons 0 [] (.cons 1 [] (.cons 2 [] (.cons 3 [] (.cons 4 [] (.cons 5 [] (.cons 6 [] (.cons 7 [] (.cons 8 [] (.cons 9 [1] .nil)))))))))))] 5 ?_
    repeat' ((fail_if_success with_reducible refine Stop.mk ?_);(conv=>whnf);first|with_reducible refine br_t ?_|refine br_tt (by rfl) ?_|with_reducible refine drw (by kernel_rfl) ?_|refine lit_ix (by rfl) (by rfl) ?_|with_reducible refine stop ?_)
    all_goals refine Stop.mk ?_
  all_goals
    refine call_fn [0] (number_fn regs 9 hc hr) rfl ⟨rfl, trivial⟩ (by decide) ?_
    rintro sv H' G' ⟨rfl, rfl, rfl⟩ -
    refine ⟨Nat.le_of_ble_eq_true rfl, ?_⟩
    have hc1 := hc.next (sNum_suf regs 9 _)
    repeat' ((fail_if_success with_reducible refine Stop.mk ?_);(conv=>whnf);first|with_reducible refine br_t ?_|refine br_tt (by rfl) ?_|with_reducible refine drw (by kernel_rfl) ?_|refine lit_ix (by rfl) (by rfl) ?_|with_reducible refine stop ?_)
    all_goals refine Stop.mk ?_
  all_goals
    refine call_fn [0] (number_fn regs 9 hc1 hr) rfl ⟨rfl, trivial⟩ (by decide) ?_
    rintro sv H' G' ⟨rfl, rfl, rfl⟩ -
    refine ⟨Nat.le_of_ble_eq_true rfl, ?_⟩
    have hc2 := hc1.next (sNum_suf regs 9 _)
    repeat' ((fail_if_success with_reducible refine Stop.mk ?_);(conv=>whnf);first|with_reducible refine br_f ?_|refine br_tt (by rfl) ?_|refine br_ff (by rfl) ?_|refine lit_ix (by rfl) (by rfl) ?_|with_reducible refine stop ?_)
    all_goals refine Stop.mk ?_
  all_goals
    replace hfin := hfin _ _ _ _ _ hfl
  all_goals
    refine call_fn [0] (perr_fn (p := (sMac regs slots p).2)) rfl ⟨by rw [hfin]; rfl, trivial⟩ (by decide) ?_
    rintro sv H' G' ⟨rfl, rfl, rfl⟩ -
    refine ⟨Nat.le_of_ble_eq_true rfl, ?_⟩
    repeat' ((fail_if_success with_reducible refine Stop.mk ?_);(conv=>whnf);with_reducible first|refine br_n (fun h=>?_) fun h=>?_|refine stop ?_)
    all_goals refine Stop.mk ?_
  all_goals
    refine fin_id hE 1 rfl rfl rfl rfl ⟨?_, ?_, rfl⟩
    · rw [hfin] at h ⊢
      dsimp only at h ⊢
      first
        | (rw [if_pos h]; rfl)
        | (rw [if_neg h]; rfl)
    · rw [hfin]; rfl
end Go.Proofs.YtchebkpcgglllaaGreat.Cu
