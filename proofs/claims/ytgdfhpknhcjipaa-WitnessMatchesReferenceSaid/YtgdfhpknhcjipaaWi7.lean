/- Invariants: the fixed results. -/
import Derived.Test.YtgdfhpknhcjipaaWi5
import Derived.Test.YtgdfhpknhcjipaaWi6
namespace Go.Proofs.Ytgdfhpknhcjipaa.Cu
open Go Go.SX Go.Proofs.Ytgdfhpknhcjipaa.VT
set_option maxRecDepth 100000
set_option linter.unusedVariables false
set_option linter.unusedSimpArgs false
def exB : List Int := [3, 0, 1, 0, 1, 2, 0]
def exI : List (List Pr) := [[⟨0, 1⟩, ⟨0, 3⟩, ⟨2, 0⟩]]
set_option maxHeartbeats 8000000 in
theorem awake19_fn (G : Gh) : Ct Try.prog 21 [] [] G fun sv H' G' => sv = .v (.bool true) ∧ H' = [] := by
  refine fn_of follows [] Try.func21 rfl rfl fun E hE => ?_
  repeat' ((fail_if_success with_reducible refine Stop.mk ?_); (conv => whnf); with_reducible first | refine br_t ?_ | refine br_f ?_ | refine br_nn ?_ | refine br_ns ?_ | refine br_not ?_ | refine br_d (fun h => ?_) (fun h => ?_) | refine br_e (fun h => ?_) (fun h => ?_) | refine br_n (fun h => ?_) (fun h => ?_) | refine drw (by kernel_rfl) ?_ | refine chk (by kernel_rfl) ?_ | refine stop ?_)
  all_goals refine Stop.mk ?_
  refine call_fz 0 rfl (by simp [Value.oneCell']) (enters_of Try.func31 rfl rfl) fun Au cu Gu hgu hsu => ?_
  (conv => whnf)
  refine call_lit 1 1 rfl rfl rfl (by decide) (enters_of Try.func31 rfl rfl) ?_
  (conv => whnf)
  refine call_fz 1 rfl (by simp [Value.oneCell']) (enters_of Try.func31 rfl rfl) fun Al cl Gl hgl hsl => ?_
  (conv => whnf)
  have hl : kPrs.S Gl Al cl exI := by
    refine Kd.S.of hsl rfl rfl ⟨[[.slice Au 3 cu]], ⟨⟨Au, cu, rfl, ?_⟩, trivial⟩, rfl⟩
    exact Kd.S.of (Sl.to hgl hsu) rfl (by kernel_rfl) ⟨[prv ⟨0, 1⟩, prv ⟨0, 3⟩, prv ⟨2, 0⟩], ⟨⟨rfl, by unfold in64; decide, by unfold in64; decide⟩, ⟨rfl, by unfold in64; decide, by unfold in64; decide⟩, ⟨rfl, by unfold in64; decide, by unfold in64; decide⟩, trivial⟩, rfl⟩
  clear hsl hsu hgl hgu
  refine call_gh (gh_birthC 2 0 5 1 rfl rfl) (put_inv_fn Gl Al cl exI [] hl (by decide) (by decide) (by decide)).enters ?_
  rintro g s' ⟨rfl, rfl⟩
  refine call_fn [2, 3] (put_inv_fn _ Al cl exI [] hl (by decide) (by decide) (by decide)) rfl ⟨rfl, rfl, trivial⟩ (by decide) ?_
  rintro sv H' G' ⟨rfl, rfl⟩ hg
  replace hl := hl.to hg
  clear hg
  rw [show [] ++ encI exI = exB by decide +kernel]
  refine ⟨Nat.le_of_ble_eq_true rfl, ?_⟩
  repeat' ((fail_if_success with_reducible refine Stop.mk ?_); (conv => whnf); with_reducible first | refine br_t ?_ | refine br_f ?_ | refine br_nn ?_ | refine br_ns ?_ | refine br_not ?_ | refine br_d (fun h => ?_) (fun h => ?_) | refine br_e (fun h => ?_) (fun h => ?_) | refine br_n (fun h => ?_) (fun h => ?_) | refine drw (by kernel_rfl) ?_ | refine chk (by kernel_rfl) ?_ | refine stop ?_)
  all_goals refine Stop.mk ?_
  refine call_fz 4 rfl (by simp [Value.oneCell']) (enters_of Try.func25 rfl rfl) fun Ax cx Gx hgx hsx => ?_
  (conv => whnf)
  replace hl := hl.to hgx
  refine call_fn [] (pnew_fn _ Ax exB cx (by decide) (SlB.of exB hsx rfl rfl rfl) (by decide)) rfl trivial (by decide) ?_
  rintro sv H' G' ⟨A1, c1, rfl, rfl, hC⟩ hg
  replace hl := hl.to hg
  clear hg hsx hgx
  refine ⟨Nat.le_of_ble_eq_true rfl, ?_⟩
  repeat' ((fail_if_success with_reducible refine Stop.mk ?_); (conv => whnf); with_reducible first | refine br_t ?_ | refine br_f ?_ | refine br_nn ?_ | refine br_ns ?_ | refine br_not ?_ | refine br_d (fun h => ?_) (fun h => ?_) | refine br_e (fun h => ?_) (fun h => ?_) | refine br_n (fun h => ?_) (fun h => ?_) | refine drw (by kernel_rfl) ?_ | refine chk (by kernel_rfl) ?_ | refine stop ?_)
  all_goals refine Stop.mk ?_
  refine call_fz 6 rfl (by simp [Value.oneCell']) (enters_of Try.func25 rfl rfl) fun Ay cy Gy hgy hsy => ?_
  (conv => whnf)
  replace hl := hl.to hgy
  replace hC := hC.to hgy
  refine call_fn [] (pnew_fn _ Ay [1, 3, 0] cy (by decide) (SlB.of [1, 3, 0] hsy rfl rfl rfl) (by decide)) rfl trivial (by decide) ?_
  rintro sv H' G' ⟨A2, c2, rfl, rfl, hD⟩ hg
  replace hl := hl.to hg
  replace hC := hC.to hg
  clear hg hsy hgy
  refine ⟨Nat.le_of_ble_eq_true rfl, ?_⟩
  repeat' ((fail_if_success with_reducible refine Stop.mk ?_); (conv => whnf); with_reducible first | refine br_t ?_ | refine br_f ?_ | refine br_nn ?_ | refine br_ns ?_ | refine br_not ?_ | refine br_d (fun h => ?_) (fun h => ?_) | refine br_e (fun h => ?_) (fun h => ?_) | refine br_n (fun h => ?_) (fun h => ?_) | refine drw (by kernel_rfl) ?_ | refine chk (by kernel_rfl) ?_ | refine stop ?_)
  all_goals refine Stop.mk ?_
  refine call_fn [5] (get_inv_fn 1 3 1 2 hC (by decide) (by decide) (by decide) (by decide)) rfl ⟨rfl, trivial⟩ (by decide) ?_
  rw [show (if (sInv 3 1 2 1 (exB, 0)).2.2 = 0 then (sInv 3 1 2 1 (exB, 0)).1 else []) = exI by decide +kernel, show (sInv 3 1 2 1 (exB, 0)).2 = ([], 0) by decide +kernel]
  rintro sv H' G' ⟨⟨A3, c3, rfl, hm⟩, rfl⟩ hg
  replace hl := hl.to hg
  replace hD := hD.to hg
  clear hg
  refine ⟨Nat.le_of_ble_eq_true rfl, ?_⟩
  repeat' ((fail_if_success with_reducible refine Stop.mk ?_); (conv => whnf); with_reducible first | refine br_t ?_ | refine br_f ?_ | refine br_nn ?_ | refine br_ns ?_ | refine br_not ?_ | refine br_d (fun h => ?_) (fun h => ?_) | refine br_e (fun h => ?_) (fun h => ?_) | refine br_n (fun h => ?_) (fun h => ?_) | refine drw (by kernel_rfl) ?_ | refine chk (by kernel_rfl) ?_ | refine stop ?_)
  all_goals refine Stop.mk ?_
  refine call_fn [7] (get_inv_fn 1 3 1 2 hD (by decide) (by decide) (by decide) (by decide)) rfl ⟨rfl, trivial⟩ (by decide) ?_
  rw [show (if (sInv 3 1 2 1 ([1, 3, 0], 0)).2.2 = 0 then (sInv 3 1 2 1 ([1, 3, 0], 0)).1 else []) = [] by decide +kernel, show (sInv 3 1 2 1 ([1, 3, 0], 0)).2 = ([0], 9) by decide +kernel]
  rintro sv H' G' ⟨⟨A4, c4, rfl, hn⟩, rfl⟩ hg
  replace hl := hl.to hg
  replace hm := hm.to hg
  clear hg
  refine ⟨Nat.le_of_ble_eq_true rfl, ?_⟩
  repeat' ((fail_if_success with_reducible refine Stop.mk ?_); (conv => whnf); with_reducible first | refine br_t ?_ | refine br_f ?_ | refine br_nn ?_ | refine br_ns ?_ | refine br_not ?_ | refine br_d (fun h => ?_) (fun h => ?_) | refine br_e (fun h => ?_) (fun h => ?_) | refine br_n (fun h => ?_) (fun h => ?_) | refine drw (by kernel_rfl) ?_ | refine chk (by kernel_rfl) ?_ | refine stop ?_)
  all_goals refine Stop.mk ?_
  refine call_fn [2, 3] (wout_fn _ exB (by decide)) rfl ⟨rfl, rfl, trivial⟩ (by decide) ?_
  rintro sv H' G' ⟨rfl, rfl, rfl⟩ -
  refine ⟨Nat.le_of_ble_eq_true rfl, ?_⟩
  repeat' ((fail_if_success with_reducible refine Stop.mk ?_); (conv => whnf); with_reducible first | refine br_t ?_ | refine br_f ?_ | refine br_nn ?_ | refine br_ns ?_ | refine br_not ?_ | refine br_d (fun h => ?_) (fun h => ?_) | refine br_e (fun h => ?_) (fun h => ?_) | refine br_n (fun h => ?_) (fun h => ?_) | refine drw (by kernel_rfl) ?_ | refine chk (by kernel_rfl) ?_ | refine stop ?_)
  all_goals refine Stop.mk ?_
  refine call_fz 8 rfl (byts_one _) (enters_of Try.func18 rfl rfl) fun Av cv Gv hgv hsv => ?_
  (conv => whnf)
  refine call_fz 9 rfl (by simp [Value.oneCell']) (enters_of Try.func18 rfl rfl) fun Az cz Gz hgz hsz => ?_
  (conv => whnf)
  replace hl := (hl.to hgv).to hgz
  replace hm := (hm.to hgv).to hgz
  refine call_fn [] (same_fn _ Av Az cv cz exB exB (SlB.of _ (Sl.to hgz hsv) rfl rfl rfl) (SlB.of _ hsz rfl rfl rfl)) rfl trivial (by decide) ?_
  rintro sv H' G' ⟨rfl, rfl, rfl⟩ -
  rw [decide_eq_true rfl]
  refine ⟨Nat.le_of_ble_eq_true rfl, ?_⟩
  repeat' ((fail_if_success with_reducible refine Stop.mk ?_); (conv => whnf); with_reducible first | refine br_t ?_ | refine br_f ?_ | refine br_nn ?_ | refine br_ns ?_ | refine br_not ?_ | refine br_d (fun h => ?_) (fun h => ?_) | refine br_e (fun h => ?_) (fun h => ?_) | refine br_n (fun h => ?_) (fun h => ?_) | refine drw (by kernel_rfl) ?_ | refine chk (by kernel_rfl) ?_ | refine stop ?_)
  all_goals refine Stop.mk ?_
  all_goals try (exfalso; rename_i h; first | exact h rfl | exact h (by decide))
  refine call_fn [] (same15_fn _ A3 Al c3 cl exI exI hm hl) rfl trivial (by decide) ?_
  rintro sv H' G' ⟨rfl, rfl, rfl⟩ -
  rw [decide_eq_true rfl]
  refine ⟨Nat.le_of_ble_eq_true rfl, ?_⟩
  repeat' ((fail_if_success with_reducible refine Stop.mk ?_); (conv => whnf); with_reducible first | refine br_t ?_ | refine br_f ?_ | refine br_nn ?_ | refine br_ns ?_ | refine br_not ?_ | refine br_d (fun h => ?_) (fun h => ?_) | refine br_e (fun h => ?_) (fun h => ?_) | refine br_n (fun h => ?_) (fun h => ?_) | refine drw (by kernel_rfl) ?_ | refine chk (by kernel_rfl) ?_ | refine stop ?_)
  all_goals refine Stop.mk ?_
  all_goals try (exfalso; rename_i h; first | exact h rfl | exact h (by decide))
  refine call_fn [5] (perr_fn) rfl ⟨rfl, trivial⟩ (by decide) ?_
  rintro sv H' G' ⟨rfl, rfl, rfl⟩ -
  refine ⟨Nat.le_of_ble_eq_true rfl, ?_⟩
  dsimp only
  repeat' ((fail_if_success with_reducible refine Stop.mk ?_); (conv => whnf); with_reducible first | refine br_t ?_ | refine br_f ?_ | refine br_nn ?_ | refine br_ns ?_ | refine br_not ?_ | refine br_d (fun h => ?_) (fun h => ?_) | refine br_e (fun h => ?_) (fun h => ?_) | refine br_n (fun h => ?_) (fun h => ?_) | refine drw (by kernel_rfl) ?_ | refine chk (by kernel_rfl) ?_ | refine stop ?_)
  all_goals refine Stop.mk ?_
  all_goals try (exfalso; rename_i h; first | exact h rfl | exact h (by decide))
  refine call_fn [7] (perr_fn (bs := [1, 3, 0]) (p := ([0], 9))) rfl ⟨rfl, trivial⟩ (by decide) ?_
  rintro sv H' G' ⟨rfl, rfl, rfl⟩ -
  refine ⟨Nat.le_of_ble_eq_true rfl, ?_⟩
  dsimp only
  repeat' ((fail_if_success with_reducible refine Stop.mk ?_); (conv => whnf); with_reducible first | refine br_t ?_ | refine br_f ?_ | refine br_nn ?_ | refine br_ns ?_ | refine br_not ?_ | refine br_d (fun h => ?_) (fun h => ?_) | refine br_e (fun h => ?_) (fun h => ?_) | refine br_n (fun h => ?_) (fun h => ?_) | refine drw (by kernel_rfl) ?_ | refine chk (by kernel_rfl) ?_ | refine stop ?_)
  all_goals refine Stop.mk ?_
  exact fin_id hE 0 rfl rfl rfl rfl ⟨rfl, rfl⟩
end Go.Proofs.Ytgdfhpknhcjipaa.Cu
