/- Invariants: what the reference reads. -/
import Derived.Test.YtkhajngpcgmpnaaWix
import Derived.Test.YtkhajngpcgmpnaaCodx
namespace Go.Proofs.Ytkhajngpcgmpnaa.Cu
open Go Go.SX Go.Proofs.Ytkhajngpcgmpnaa.VT
set_option maxRecDepth 100000
set_option linter.unusedVariables false
set_option linter.unusedSimpArgs false

theorem mkPr_3 (q : Pr) (dv dl : Int) (h : dv = 0) : mkPr (false, q) dv dl = ⟨q.v + dv, q.l + 1 + dl⟩ := by
  unfold mkPr
  rw [if_neg (by rintro (h1 | h1)
                 · exact absurd (show false = true from h1) (by decide)
                 · exact h1 h)]
/-- A difference of locations is read by two bounds. -/
theorem sDl_two {p : Ps} (hb : isB p.1) :
    ((sNum 4611686018427387904 10 p).2.2 ≠ 0 → (sDl p).2.2 = (sNum 4611686018427387904 10 p).2.2) ∧
    ((sNum 4611686018427387904 10 p).2.2 = 0 → (sNum 4611686018427387904 10 p).1 ≤ 1099511627776 → sDl p = sNum 4611686018427387904 10 p) ∧
    ((sNum 4611686018427387904 10 p).2.2 = 0 → 1099511627776 < (sNum 4611686018427387904 10 p).1 → (sDl p).2 = sFail 10 (sNum 4611686018427387904 10 p).2) := by
  have h0 := sUint_err0 (most := maxU) (p := p)
  unfold sDl sNum
  generalize sUint maxU p = u at *
  obtain ⟨n, q⟩ := u
  dsimp only at h0 ⊢
  by_cases h1 : (4611686018427387904 : Int) ≤ n
  · rw [if_pos h1, if_pos (by omega)]
    exact ⟨fun _ => rfl, fun _ h => by dsimp only at h ⊢, fun _ h => by dsimp only at h; omega⟩
  · rw [if_neg h1]
    by_cases h2 : (1099511627777 : Int) ≤ n
    · rw [if_pos h2]
      refine ⟨fun h => ?_, fun _ h => by dsimp only at h; omega, fun _ _ => rfl⟩
      have := h0 h
      omega
    · rw [if_neg h2]
      exact ⟨fun _ => rfl, fun _ _ => rfl, fun _ h => by dsimp only at h; omega⟩
set_option maxHeartbeats 8000000 in
theorem rpair_fn {G : Gh} {A : Option Addr} {c : Nat} {p r : Ps} (first : Bool) (q : Pr) (vregs regs slots : Int) (h : RIn G A c p r) (hb : isB p.1) (hv : vregs ≤ 1000000000) (hr : regs ≤ 1000000000) (hs : slots ≤ 1000000000) (hg : goodS vregs (first, q)) (hl : q.l ≤ 3000000000) :
    Ct Try.prog 62 [inS A c r, .v (.bool first), q.sv, .v (.int .i64 vregs), .v (.int .i64 regs), .v (.int .i64 slots)] [] G fun sv H' G' => ∃ x A' c' r', sv = .tup [x.sv, inS A' c' r'] ∧ RIn G A' c' (sPr vregs regs slots (first, q) p).2 r' ∧ (in64 x.v ∧ in64 x.l) ∧ ((sPr vregs regs slots (first, q) p).2.2 = 0 → x = (sPr vregs regs slots (first, q) p).1) ∧ H' = [] ∧ G' = G := by
  obtain ⟨g1, g2, g3⟩ := hg
  dsimp only at g1 g2 g3
  have hw : IntKind.i64.wrap (vregs - q.v) = vregs - q.v := i64_in (by omega) (by omega)
  have hra := sNum_rng2 (bound := vregs - q.v) (why := 9) hb
  have hba : isB (sNum (vregs - q.v) 9 p).2.1 := fun x hx => hb x ((sNum_suf _ _ _).subset hx)
  have hrd := sNum_rng2 (bound := 4611686018427387904) (why := 10) hba
  have h2 := sDl_two hba
  have hsp : sPr vregs regs slots (first, q) p = if (sDl (sNum (vregs - q.v) 9 p).2).2.2 ≠ 0 then (pr0, (sDl (sNum (vregs - q.v) 9 p).2).2) else (mkPr (first, q) (sNum (vregs - q.v) 9 p).1 (sDl (sNum (vregs - q.v) 9 p).2).1, if inRange (mkPr (first, q) (sNum (vregs - q.v) 9 p).1 (sDl (sNum (vregs - q.v) 9 p).2).1).l regs slots then (sDl (sNum (vregs - q.v) 9 p).2).2 else sFail 10 (sDl (sNum (vregs - q.v) 9 p).2).2) := rfl
  refine fn_of follows [(10, (.cons 0 [] (.cons 1 [] (.cons 2 [] (.cons 3 [] (.cons 4 [] (.cons 5 [] (.cons 6 [] (.cons 7 [1] (.cons 8 [1, 6] .nil))))))))))] Try.func62 rfl rfl fun E hE => ?_
  repeat' ((fail_if_success with_reducible refine Stop.mk ?_); (conv => whnf); with_reducible first | refine br_t ?_ | refine br_f ?_ | refine br_nn ?_ | refine br_ns ?_ | refine br_not ?_ | refine br_d (fun h => ?_) (fun h => ?_) | refine br_e (fun h => ?_) (fun h => ?_) | refine br_n (fun h => ?_) (fun h => ?_) | refine drw (by kernel_rfl) ?_ | refine chk (by kernel_rfl) ?_ | refine stop ?_)
  all_goals refine Stop.mk ?_
  rw [hw]
  refine call_fn [] (rNumber_fn (vregs - q.v) 9 h (by omega) (by decide)) rfl trivial (by decide) ?_
  rintro sv H' G' ⟨B1, d1, r1, rfl, hR1, rfl, rfl⟩ -
  refine ⟨Nat.le_of_ble_eq_true rfl, ?_⟩
  repeat' ((fail_if_success with_reducible refine Stop.mk ?_); (conv => whnf); with_reducible first | refine br_t ?_ | refine br_f ?_ | refine br_nn ?_ | refine br_ns ?_ | refine br_not ?_ | refine br_d (fun h => ?_) (fun h => ?_) | refine br_e (fun h => ?_) (fun h => ?_) | refine br_n (fun h => ?_) (fun h => ?_) | refine drw (by kernel_rfl) ?_ | refine chk (by kernel_rfl) ?_ | refine stop ?_)
  all_goals refine Stop.mk ?_
  refine call_fn [] (rNumber_fn 4611686018427387904 10 hR1 (by decide) (by decide)) rfl trivial (by decide) ?_
  rintro sv H' G' ⟨B2, d2, r2, rfl, hR2, rfl, rfl⟩ -
  refine ⟨Nat.le_of_ble_eq_true rfl, ?_⟩
  generalize sNum (vregs - q.v) 9 p = a at *
  obtain ⟨dv, pa⟩ := a
  dsimp only at hra hba hrd h2 hsp hR2 ⊢
  generalize sNum 4611686018427387904 10 pa = d at *
  obtain ⟨dl, pd⟩ := d
  dsimp only at hrd h2 hR2 ⊢
  have hdl : dl ≤ 4611686018427387904 := by omega
  have hdl0 : 0 ≤ dl := hrd.1
  have hE1 : pd.2 ≠ 0 → (sPr vregs regs slots (first, q) p).2.2 = pd.2 := by
    intro h0
    have h3 := h2.1 h0
    rw [hsp, if_pos (by rw [h3]; exact h0)]
    exact h3
  have hE2 : pd.2 = 0 → ∀ x, mkPr (first, q) dv dl = x → ¬ inRange x.l regs slots → dl ≤ x.l → (sPr vregs regs slots (first, q) p).2 = sFail 10 pd := by
    intro h0 x hx hin hle
    by_cases h40 : dl ≤ 1099511627776
    · rw [hsp, h2.2.1 h0 h40]
      try dsimp only
      rw [if_neg (by rw [h0]; simp), hx]
      try dsimp only
      rw [if_neg hin]
    · have h3 := h2.2.2 h0 (by omega)
      rw [hsp, if_pos (by rw [h3]; exact sFail_ne (by decide))]
      exact h3
  have hE3 : pd.2 = 0 → ∀ x, mkPr (first, q) dv dl = x → inRange x.l regs slots → dl ≤ x.l → sPr vregs regs slots (first, q) p = (x, pd) := by
    intro h0 x hx hin hle
    have hxl : x.l ≤ 2000000001 := by unfold inRange at hin; omega
    rw [hsp, h2.2.1 h0 (by omega)]
    try dsimp only
    rw [if_neg (by rw [h0]; simp), hx]
    try dsimp only
    rw [if_pos hin]
  have he2 := hR2.he
  clear hsp h2
  have hG1 : ∀ x, pd.2 = 0 → mkPr (first, q) dv dl = x → inRange x.l regs slots → dl ≤ x.l → RIn G' B2 d2 (sPr vregs regs slots (first, q) p).2 r2 ∧ ((sPr vregs regs slots (first, q) p).2.2 = 0 → x = (sPr vregs regs slots (first, q) p).1) := by
    intro x h0 hx hin hle
    rw [hE3 h0 x hx hin hle]
    exact ⟨hR2, fun _ => rfl⟩
  have hG2 : ∀ x B3 d3 r3, pd.2 = 0 → mkPr (first, q) dv dl = x → ¬ inRange x.l regs slots → dl ≤ x.l → RIn G' B3 d3 (sFail 10 pd) r3 → RIn G' B3 d3 (sPr vregs regs slots (first, q) p).2 r3 ∧ ((sPr vregs regs slots (first, q) p).2.2 = 0 → x = (sPr vregs regs slots (first, q) p).1) := by
    intro x B3 d3 r3 h0 hx hin hle hR
    have h3 := hE2 h0 x hx hin hle
    rw [h3]
    exact ⟨hR, fun h9 => absurd h9 (sFail_ne (by decide))⟩
  have hw5 : IntKind.i64.wrap (q.l + 1) = q.l + 1 := i64_in (by omega) (by omega)
  have hw6 : IntKind.i64.wrap (q.l + 1 + dl) = q.l + 1 + dl := i64_in (by omega) (by omega)
  have hw7 : IntKind.i64.wrap (q.v + dv) = q.v + dv := i64_in (by omega) (by omega)
  cases first
  all_goals
    repeat' ((fail_if_success with_reducible refine Stop.mk ?_); (conv => whnf); with_reducible first | refine br_t ?_ | refine br_f ?_ | refine br_nn ?_ | refine br_ns ?_ | refine br_not ?_ | refine br_d (fun h => ?_) (fun h => ?_) | refine br_e (fun h => ?_) (fun h => ?_) | refine br_n (fun h => ?_) (fun h => ?_) | refine drw (by kernel_rfl) ?_ | refine chk (by kernel_rfl) ?_ | refine stop ?_)
    all_goals refine Stop.mk ?_
  all_goals try rw [hw5]
  all_goals try rw [hw6]
  all_goals try rw [hw7]
  all_goals try
    refine call_fn [] (rinRange_fn _ _ regs slots (by unfold in64; omega)) rfl trivial (by decide) ?_
    rintro sv H' G' ⟨rfl, rfl, rfl⟩ -
    refine ⟨Nat.le_of_ble_eq_true rfl, ?_⟩
    repeat' ((fail_if_success with_reducible refine Stop.mk ?_); (conv => whnf); with_reducible first | refine br_t ?_ | refine br_f ?_ | refine br_nn ?_ | refine br_ns ?_ | refine br_not ?_ | refine br_d (fun h => ?_) (fun h => ?_) | refine br_e (fun h => ?_) (fun h => ?_) | refine br_n (fun h => ?_) (fun h => ?_) | refine drw (by kernel_rfl) ?_ | refine chk (by kernel_rfl) ?_ | refine stop ?_)
    all_goals refine Stop.mk ?_
  all_goals try
    refine call_fn [] (r18Fail_fn 10 hR2 (by decide)) rfl trivial (by decide) ?_
    rintro sv H' G' ⟨B3, d3, r3, rfl, hR3, rfl, rfl⟩ -
    refine ⟨Nat.le_of_ble_eq_true rfl, ?_⟩
    repeat' ((fail_if_success with_reducible refine Stop.mk ?_); (conv => whnf); with_reducible first | refine br_t ?_ | refine br_f ?_ | refine br_nn ?_ | refine br_ns ?_ | refine br_not ?_ | refine br_d (fun h => ?_) (fun h => ?_) | refine br_e (fun h => ?_) (fun h => ?_) | refine br_n (fun h => ?_) (fun h => ?_) | refine drw (by kernel_rfl) ?_ | refine chk (by kernel_rfl) ?_ | refine stop ?_)
    all_goals refine Stop.mk ?_
  all_goals try rw [hw7]
  all_goals
    first
      | (have h0 : r2.2 ≠ 0 := by assumption
         have h1 : pd.2 ≠ 0 := by rw [← he2]; exact h0
         exact fin_id hE 0 rfl rfl rfl rfl ⟨⟨_, _⟩, B2, d2, r2, rfl, hR2.errs h1 (hE1 h1), ⟨by unfold in64; dsimp only; omega, by unfold in64; dsimp only; omega⟩, fun h9 => absurd ((hE1 h1) ▸ h9) h1, rfl, rfl⟩)
      | (have h0 : pd.2 = 0 := by rw [← he2]; assumption
         have k := hG1 ⟨q.v + dv, dl⟩ h0 (mkPr_t q dv dl) (by assumption) (by dsimp only; omega)
         exact fin_id hE 0 rfl rfl rfl rfl ⟨⟨q.v + dv, dl⟩, B2, d2, r2, rfl, k.1, ⟨by unfold in64; dsimp only; omega, by unfold in64; dsimp only; omega⟩, k.2, rfl, rfl⟩)
      | (have h0 : pd.2 = 0 := by rw [← he2]; assumption
         have k := hG2 ⟨q.v + dv, dl⟩ B3 d3 r3 h0 (mkPr_t q dv dl) (by assumption) (by dsimp only; omega) hR3
         exact fin_id hE 0 rfl rfl rfl rfl ⟨⟨q.v + dv, dl⟩, B3, d3, r3, rfl, k.1, ⟨by unfold in64; dsimp only; omega, by unfold in64; dsimp only; omega⟩, k.2, rfl, rfl⟩)
      | (have h0 : pd.2 = 0 := by rw [← he2]; assumption
         have k := hG1 ⟨q.v + dv, dl⟩ h0 (mkPr_1 q dv dl (by assumption)) (by assumption) (by dsimp only; omega)
         exact fin_id hE 0 rfl rfl rfl rfl ⟨⟨q.v + dv, dl⟩, B2, d2, r2, rfl, k.1, ⟨by unfold in64; dsimp only; omega, by unfold in64; dsimp only; omega⟩, k.2, rfl, rfl⟩)
      | (have h0 : pd.2 = 0 := by rw [← he2]; assumption
         have k := hG2 ⟨q.v + dv, dl⟩ B3 d3 r3 h0 (mkPr_1 q dv dl (by assumption)) (by assumption) (by dsimp only; omega) hR3
         exact fin_id hE 0 rfl rfl rfl rfl ⟨⟨q.v + dv, dl⟩, B3, d3, r3, rfl, k.1, ⟨by unfold in64; dsimp only; omega, by unfold in64; dsimp only; omega⟩, k.2, rfl, rfl⟩)
      | (have h0 : pd.2 = 0 := by rw [← he2]; assumption
         have k := hG1 ⟨q.v + dv, q.l + 1 + dl⟩ h0 (mkPr_3 q dv dl (by assumption)) (by assumption) (by dsimp only; omega)
         exact fin_id hE 0 rfl rfl rfl rfl ⟨⟨q.v + dv, q.l + 1 + dl⟩, B2, d2, r2, rfl, k.1, ⟨by unfold in64; dsimp only; omega, by unfold in64; dsimp only; omega⟩, k.2, rfl, rfl⟩)
      | (have h0 : pd.2 = 0 := by rw [← he2]; assumption
         have k := hG2 ⟨q.v + dv, q.l + 1 + dl⟩ B3 d3 r3 h0 (mkPr_3 q dv dl (by assumption)) (by assumption) (by dsimp only; omega) hR3
         exact fin_id hE 0 rfl rfl rfl rfl ⟨⟨q.v + dv, q.l + 1 + dl⟩, B3, d3, r3, rfl, k.1, ⟨by unfold in64; dsimp only; omega, by unfold in64; dsimp only; omega⟩, k.2, rfl, rfl⟩)
end Go.Proofs.Ytkhajngpcgmpnaa.Cu
