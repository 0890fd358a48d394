/- Functions: the reference's sizes and counts. -/
import Derived.Test.YtkhajngpcgmpnaaFu4
import Derived.Test.YtkhajngpcgmpnaaCodx
namespace Go.Proofs.Ytkhajngpcgmpnaa.Cu
open Go Go.SX Go.Proofs.Ytkhajngpcgmpnaa.VT
set_option maxRecDepth 100000
set_option linter.unusedVariables false
set_option linter.unusedSimpArgs false
theorem ct_mono {P : Program} {f : FuncId} {args : List SV} {H : List Ob} {G : Gh} {Post Post' : SV → List Ob → Gh → Prop} (h : Ct P f args H G Post)
    (hf : ∀ sv H' G', Post sv H' G' → Post' sv H' G') : Ct P f args H G Post' := by
  refine ⟨h.enters, fun ρ w ys hA hargs => (h.calls ρ w ys hA hargs).mono fun e w' hh => ?_⟩
  obtain ⟨v, sv, H', G', ρ', rfl, hp, hA', hr⟩ := hh
  exact ⟨v, sv, H', G', ρ', rfl, hf _ _ _ hp, hA', hr⟩
/-- A size is a number below a bound. -/
theorem sUint_num {p : Ps} (hb : isB p.1) :
    (sUint 1048576 p).1 = (sNum 1048577 6 p).1 ∧ (sUint 1048576 p).2.2 = (sNum 1048577 6 p).2.2 ∧ ((sNum 1048577 6 p).2.2 = 0 → sUint 1048576 p = sNum 1048577 6 p) := by
  obtain ⟨l, e⟩ := p
  by_cases he : e = 0
  · subst he
    have hn : sNum 1048577 6 (l, 0) = if (1048577 : Int) ≤ (sUint maxU (l, 0)).1 then (0, sFail 6 (sUint maxU (l, 0)).2) else sUint maxU (l, 0) := rfl
    rw [sUint_max' hb] at hn
    have hu : sUint 1048576 (l, 0) = if whyU 1048576 (vdec 0 l) = 0 then ((vdec 0 l).1, (l.drop (vdec 0 l).2.1.toNat, 0)) else (0, (l, whyU 1048576 (vdec 0 l))) := rfl
    unfold whyU at hu
    rcases vdec_form hb with ⟨x, hx, hv⟩ | ⟨n, m, hv, h3, h4, h5, h6, h7⟩
    · rw [hv] at hn hu
      dsimp only at hn hu
      rw [if_neg (show ¬ x = 0 by omega)] at hn
      dsimp only at hn
      rw [if_neg (show ¬ (1048577 : Int) ≤ 0 by decide)] at hn
      rw [if_neg (show ¬ (x = 0 ∧ (0 : Int) > 1048576) by omega), if_neg (show ¬ x = 0 by omega)] at hu
      rw [hn, hu]
      exact ⟨rfl, rfl, fun _ => rfl⟩
    · dsimp only at hv h5
      rw [hv] at hn hu
      dsimp only at hn hu
      rw [if_pos rfl] at hn
      dsimp only at hn
      by_cases hbig : (1048577 : Int) ≤ n
      · rw [if_pos hbig] at hn
        rw [if_pos (show (0 : Int) = 0 ∧ (n : Int) > 1048576 by omega), if_neg (by decide)] at hu
        rw [hn, hu]
        have h6' : (sFail 6 (l.drop m, 0)).2 = 6 := by unfold sFail failE; rw [if_pos rfl]
        refine ⟨rfl, ?_, fun h => absurd h ?_⟩
        · dsimp only; rw [Int.toNat_natCast, h6']
        · dsimp only; rw [Int.toNat_natCast, h6']; decide
      · rw [if_neg hbig] at hn
        rw [if_neg (show ¬ ((0 : Int) = 0 ∧ (n : Int) > 1048576) by omega), if_pos rfl] at hu
        rw [hn, hu]
        exact ⟨rfl, rfl, fun _ => rfl⟩
  · have h1 : sNum 1048577 6 (l, e) = (0, (l, e)) := sNum_err (p := (l, e)) he
    have h2 : sUint 1048576 (l, e) = (0, (l, e)) := sUint_err (p := (l, e)) he
    rw [h1, h2]
    exact ⟨rfl, rfl, fun _ => rfl⟩
theorem r18Size_fn' {G : Gh} {A : Option Addr} {c : Nat} {p r : Ps} (h : RIn G A c p r) (hb : isB p.1) :
    Ct Try.prog 27 [inS A c r] [] G (RPost G (.v (.int .i64 (sUint 1048576 p).1)) (sUint 1048576 p).2) := by
  obtain ⟨h1, h2, h3⟩ := sUint_num hb
  refine ct_mono (r18Size_fn h) ?_
  rintro sv H' G' ⟨A1, c1, r1, rfl, hR, rfl, rfl⟩
  refine ⟨A1, c1, r1, by rw [h1], ?_, rfl, rfl⟩
  rcases Decidable.em ((sNum 1048577 6 p).2.2 = 0) with h4 | h4
  · rw [h3 h4]; exact hR
  · exact hR.errs h4 h2
theorem rblocks_fn {G : Gh} {A : Option Addr} {c : Nat} {p r : Ps} (h : RIn G A c p r) (hb : isB p.1) :
    Ct Try.prog 60 [inS A c r] [] G (RPost G (.v (.int .i64 (cntB p).1)) (cntB p).2) := by
  have hcb : cntB p = ((sCount 1048576 3 p).1, if (sCount 1048576 3 p).1 ≠ 0 then (sCount 1048576 3 p).2 else sFail 14 (sCount 1048576 3 p).2) := by
    unfold cntB cntC
    simp only [decide_eq_true_eq]
  refine fn_of follows [(4, (.cons 0 [] (.cons 1 [] (.cons 2 [] (.cons 3 [1] .nil)))))] Try.func60 rfl rfl fun E hE => ?_
  repeat' ((fail_if_success with_reducible refine Stop.mk ?_); (conv => whnf); with_reducible first | refine br_t ?_ | refine br_f ?_ | refine br_nn ?_ | refine br_ns ?_ | refine br_not ?_ | refine br_d (fun h => ?_) (fun h => ?_) | refine br_e (fun h => ?_) (fun h => ?_) | refine br_n (fun h => ?_) (fun h => ?_) | refine drw (by kernel_rfl) ?_ | refine chk (by kernel_rfl) ?_ | refine stop ?_)
  all_goals refine Stop.mk ?_
  refine call_fn [] (r18Count_fn 3 h hb (by decide)) rfl trivial (by decide) ?_
  rintro sv H' G' ⟨B1, d1, r1, rfl, hR1, rfl, rfl⟩ -
  refine ⟨Nat.le_of_ble_eq_true rfl, ?_⟩
  repeat' ((fail_if_success with_reducible refine Stop.mk ?_); (conv => whnf); with_reducible first | refine br_t ?_ | refine br_f ?_ | refine br_nn ?_ | refine br_ns ?_ | refine br_not ?_ | refine br_d (fun h => ?_) (fun h => ?_) | refine br_e (fun h => ?_) (fun h => ?_) | refine br_n (fun h => ?_) (fun h => ?_) | refine drw (by kernel_rfl) ?_ | refine chk (by kernel_rfl) ?_ | refine stop ?_)
  all_goals refine Stop.mk ?_
  · refine call_fn [] (r18Fail_fn 14 hR1 (by decide)) rfl trivial (by decide) ?_
    rintro sv H' G' ⟨B2, d2, r2, rfl, hR2, rfl, rfl⟩ -
    refine ⟨Nat.le_of_ble_eq_true rfl, ?_⟩
    repeat' ((fail_if_success with_reducible refine Stop.mk ?_); (conv => whnf); with_reducible first | refine br_t ?_ | refine br_f ?_ | refine br_nn ?_ | refine br_ns ?_ | refine br_not ?_ | refine br_d (fun h => ?_) (fun h => ?_) | refine br_e (fun h => ?_) (fun h => ?_) | refine br_n (fun h => ?_) (fun h => ?_) | refine drw (by kernel_rfl) ?_ | refine chk (by kernel_rfl) ?_ | refine stop ?_)
    all_goals refine Stop.mk ?_
    have h0 : (sCount 1048576 3 p).1 = 0 := by assumption
    refine fin_id hE 0 rfl rfl rfl rfl ?_
    rw [hcb, if_neg (by rw [h0]; simp), h0]
    exact ⟨B2, d2, r2, rfl, hR2, rfl, rfl⟩
  · have h0 : (sCount 1048576 3 p).1 ≠ 0 := by assumption
    refine fin_id hE 0 rfl rfl rfl rfl ?_
    rw [hcb, if_pos h0]
    exact ⟨B1, d1, r1, rfl, hR1, rfl, rfl⟩
theorem rcode_fn {G : Gh} {A : Option Addr} {c : Nat} {p r : Ps} (t : Int) (hI : RIn G A c p r) (hb : isB p.1) (ht : 0 ≤ t ∧ t ≤ 1048576) :
    Ct Try.prog 61 [inS A c r, .v (.int .i64 t)] [] G fun sv H' G' => ∃ v : Int, (0 ≤ v ∧ v ≤ 1048576) ∧ RPost G (.v (.int .i64 v)) (cntI t p).2 sv H' G' ∧ ((cntI t p).2.2 = 0 → v = (cntI t p).1 ∧ t + v ≤ 1048576) := by
  have hcb : cntI t p = ((sCount 1048576 2 p).1, if t + (sCount 1048576 2 p).1 ≤ 1048576 then (sCount 1048576 2 p).2 else sFail 6 (sCount 1048576 2 p).2) := by
    unfold cntI cntC
    simp only [decide_eq_true_eq]
  have hcr := sCount_range (most := 1048576) (size := 2) hb (by decide)
  have hw : IntKind.i64.wrap (t + (sCount 1048576 2 p).1) = t + (sCount 1048576 2 p).1 := i64_in (by omega) (by omega)
  refine fn_of follows [(4, (.cons 0 [] (.cons 1 [] (.cons 2 [] (.cons 3 [1] .nil)))))] Try.func61 rfl rfl fun E hE => ?_
  repeat' ((fail_if_success with_reducible refine Stop.mk ?_); (conv => whnf); with_reducible first | refine br_t ?_ | refine br_f ?_ | refine br_nn ?_ | refine br_ns ?_ | refine br_not ?_ | refine br_d (fun h => ?_) (fun h => ?_) | refine br_e (fun h => ?_) (fun h => ?_) | refine br_n (fun h => ?_) (fun h => ?_) | refine drw (by kernel_rfl) ?_ | refine chk (by kernel_rfl) ?_ | refine stop ?_)
  all_goals refine Stop.mk ?_
  refine call_fn [] (r18Count_fn 2 hI hb (by decide)) rfl trivial (by decide) ?_
  rintro sv H' G' ⟨B1, d1, r1, rfl, hR1, rfl, rfl⟩ -
  refine ⟨Nat.le_of_ble_eq_true rfl, ?_⟩
  repeat' ((fail_if_success with_reducible refine Stop.mk ?_); (conv => whnf); with_reducible first | refine br_t ?_ | refine br_f ?_ | refine br_nn ?_ | refine br_ns ?_ | refine br_not ?_ | refine br_d (fun h => ?_) (fun h => ?_) | refine br_e (fun h => ?_) (fun h => ?_) | refine br_n (fun h => ?_) (fun h => ?_) | refine drw (by kernel_rfl) ?_ | refine chk (by kernel_rfl) ?_ | refine stop ?_)
  all_goals refine Stop.mk ?_
  all_goals rw [hw] at h
  · refine call_fn [] (r18Fail_fn 6 hR1 (by decide)) rfl trivial (by decide) ?_
    rintro sv H' G' ⟨B2, d2, r2, rfl, hR2, rfl, rfl⟩ -
    refine ⟨Nat.le_of_ble_eq_true rfl, ?_⟩
    repeat' ((fail_if_success with_reducible refine Stop.mk ?_); (conv => whnf); with_reducible first | refine br_t ?_ | refine br_f ?_ | refine br_nn ?_ | refine br_ns ?_ | refine br_not ?_ | refine br_d (fun h => ?_) (fun h => ?_) | refine br_e (fun h => ?_) (fun h => ?_) | refine br_n (fun h => ?_) (fun h => ?_) | refine drw (by kernel_rfl) ?_ | refine chk (by kernel_rfl) ?_ | refine stop ?_)
    all_goals refine Stop.mk ?_
    refine fin_id hE 0 rfl rfl rfl rfl ⟨0, by decide, ?_⟩
    rw [hcb, if_neg (by omega)]
    exact ⟨⟨B2, d2, r2, rfl, hR2, rfl, rfl⟩, fun h9 => absurd h9 (sFail_ne (by decide))⟩
  · refine fin_id hE 0 rfl rfl rfl rfl ⟨(sCount 1048576 2 p).1, by omega, ?_⟩
    rw [hcb, if_pos (by omega)]
    exact ⟨⟨B1, d1, r1, rfl, hR1, rfl, rfl⟩, fun _ => ⟨rfl, by omega⟩⟩
end Go.Proofs.Ytkhajngpcgmpnaa.Cu
