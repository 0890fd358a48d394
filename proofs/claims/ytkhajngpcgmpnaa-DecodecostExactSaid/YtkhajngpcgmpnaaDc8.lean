/- The cost of decoding: the laws' fixed results; the bound. -/
import Derived.Test.YtkhajngpcgmpnaaDc7
import Derived.Test.YtkhajngpcgmpnaaSXP
namespace Go.Proofs.Ytkhajngpcgmpnaa.Cu
open Go Go.SX Go.Proofs.Ytkhajngpcgmpnaa.VT
set_option maxRecDepth 100000
set_option linter.unusedVariables false
set_option linter.unusedSimpArgs false

theorem dtotal_fn {G : Gh} (x : Cst) (hx : okCst x 100000000) : Ct Try.prog 11 [x.sv] [] G fun sv H' G' => sv = .v (.int .i64 (x.blocks + x.instrs + x.pairs)) ∧ H' = [] ∧ G' = G := by
  obtain ⟨hx1, hx2, hx3, hx4⟩ := hx
  refine fn_of follows [] Try.func11 rfl rfl fun E hE => ?_
  unfold Cst.sv
  repeat' ((fail_if_success with_reducible refine Stop.mk ?_); (conv => whnf); with_reducible first | refine br_t ?_ | refine br_f ?_ | refine br_nn ?_ | refine br_ns ?_ | refine br_not ?_ | refine br_d (fun h => ?_) (fun h => ?_) | refine br_e (fun h => ?_) (fun h => ?_) | refine br_n (fun h => ?_) (fun h => ?_) | refine drw_fast (by kernel_rfl) ?_ | refine chk (by kernel_rfl) ?_ | refine stop ?_)
  all_goals refine Stop.mk ?_
  rw [i64_in (n := x.blocks + x.instrs) (by omega) (by omega), i64_in (by omega) (by omega)]
  exact fin_id hE 0 rfl rfl rfl rfl ⟨rfl, rfl, rfl⟩
def awB : List Int := [82, 67, 1, 1, 6, 0, 1, 1, 0, 3, 0, 2, 7, 0, 1, 0, 1, 0, 3, 0, 3, 3, 1, 0, 0]
set_option maxHeartbeats 8000000 in
theorem awake21_fn (G : Gh) : Ct Try.prog 8 [] [] G fun sv H' G' => sv = .v (.bool true) ∧ H' = [] := by
  refine fn_of follows [] Try.func8 rfl rfl fun E hE => ?_
  repeat' ((fail_if_success with_reducible refine Stop.mk ?_); (conv => whnf); with_reducible first | refine br_t ?_ | refine br_f ?_ | refine br_nn ?_ | refine br_ns ?_ | refine br_not ?_ | refine br_d (fun h => ?_) (fun h => ?_) | refine br_e (fun h => ?_) (fun h => ?_) | refine br_n (fun h => ?_) (fun h => ?_) | refine drw_fast (by kernel_rfl) ?_ | refine chk (by kernel_rfl) ?_ | refine stop ?_)
  all_goals refine Stop.mk ?_
  refine call_fz 0 rfl (by simp [Value.oneCell']) (enters_of Try.func9 rfl rfl) fun Ab cb Gb hgb hsb => ?_
  (conv => whnf)
  have hb := SlB.of awB hsb rfl rfl rfl
  clear hsb hgb
  refine call_fn [] (dof_fn (b := awB) (by decide) hb (by decide)) rfl trivial (by decide) ?_
  rintro sv H' G' ⟨rfl, rfl⟩ hg
  replace hb := Sl.to hg hb
  clear hg
  refine ⟨Nat.le_of_ble_eq_true rfl, ?_⟩
  rw [show (dOf awB).sv = .agg [.v (.int .i64 2), .v (.int .i64 0), .v (.int .i64 1), .v (.int .i64 16)] by rw [show dOf awB = ⟨2, 0, 1, 16⟩ by decide +kernel]; rfl]
  repeat' ((fail_if_success with_reducible refine Stop.mk ?_); (conv => whnf); with_reducible first | refine br_t ?_ | refine br_f ?_ | refine br_nn ?_ | refine br_ns ?_ | refine br_not ?_ | refine br_d (fun h => ?_) (fun h => ?_) | refine br_e (fun h => ?_) (fun h => ?_) | refine br_n (fun h => ?_) (fun h => ?_) | refine br_b (fun h => ?_) (fun h => ?_) | refine drw_fast (by kernel_rfl) ?_ | refine chk (by kernel_rfl) ?_ | refine stop ?_)
  all_goals refine Stop.mk ?_
  all_goals try exact absurd rfl h
  have hcap : 25 ≤ cb := hb.cap
  have htop := hb.top
  refine call_fn [] (dtotal_fn ⟨2, 0, 1, 16⟩ (by unfold okCst; decide)) rfl trivial (by decide) ?_
  rintro sv H' G' ⟨rfl, rfl, rfl⟩ -
  refine ⟨Nat.le_of_ble_eq_true rfl, ?_⟩
  repeat' ((fail_if_success with_reducible refine Stop.mk ?_); (conv => whnf); with_reducible first | refine br_t ?_ | refine br_f ?_ | refine br_nn ?_ | refine br_ns ?_ | refine br_not ?_ | refine br_d (fun h => ?_) (fun h => ?_) | refine br_e (fun h => ?_) (fun h => ?_) | refine br_n (fun h => ?_) (fun h => ?_) | refine br_b (fun h => ?_) (fun h => ?_) | refine drw_fast (by kernel_rfl) ?_ | refine chk (by kernel_rfl) ?_ | refine stop ?_)
  all_goals refine Stop.mk ?_
  refine ⟨⟨by omega, by omega⟩, fun A' hA' => ?_⟩
  obtain rfl : A' = Ab := by
    rw [hA']
    split
    · rfl
    · cases Ab <;> simp [Addr.add]
  clear hA'
  repeat' ((fail_if_success with_reducible refine Stop.mk ?_); (conv => whnf); with_reducible first | refine br_t ?_ | refine br_f ?_ | refine br_nn ?_ | refine br_ns ?_ | refine br_not ?_ | refine br_d (fun h => ?_) (fun h => ?_) | refine br_e (fun h => ?_) (fun h => ?_) | refine br_n (fun h => ?_) (fun h => ?_) | refine br_b (fun h => ?_) (fun h => ?_) | refine drw_fast (by kernel_rfl) ?_ | refine chk (by kernel_rfl) ?_ | refine stop ?_)
  all_goals refine Stop.mk ?_
  have hb2 : SlB _ A' (cb - 0) (awB.take 2) := slB_take hb 2 (by decide)
  refine call_fn [] (dof_fn (b := awB.take 2) (by decide) hb2 (by decide)) rfl trivial (by decide) ?_
  rintro sv H' G' ⟨rfl, rfl⟩ hg
  replace hb := Sl.to hg hb
  clear hg hb2
  refine ⟨Nat.le_of_ble_eq_true rfl, ?_⟩
  rw [show (dOf (awB.take 2)).sv = .agg [.v (.int .i64 0), .v (.int .i64 0), .v (.int .i64 0), .v (.int .i64 0)] by rw [show dOf (awB.take 2) = ⟨0, 0, 0, 0⟩ by decide +kernel]; rfl]
  repeat' ((fail_if_success with_reducible refine Stop.mk ?_); (conv => whnf); with_reducible first | refine br_t ?_ | refine br_f ?_ | refine br_nn ?_ | refine br_ns ?_ | refine br_not ?_ | refine br_d (fun h => ?_) (fun h => ?_) | refine br_e (fun h => ?_) (fun h => ?_) | refine br_n (fun h => ?_) (fun h => ?_) | refine br_b (fun h => ?_) (fun h => ?_) | refine drw_fast (by kernel_rfl) ?_ | refine chk (by kernel_rfl) ?_ | refine stop ?_)
  all_goals refine Stop.mk ?_
  all_goals try exact absurd rfl h
  refine ⟨⟨by omega, by omega⟩, fun A2 hA' => ?_⟩
  obtain rfl : A2 = A' := by
    rw [hA']
    split
    · rfl
    · cases A' <;> simp [Addr.add]
  clear hA'
  repeat' ((fail_if_success with_reducible refine Stop.mk ?_); (conv => whnf); with_reducible first | refine br_t ?_ | refine br_f ?_ | refine br_nn ?_ | refine br_ns ?_ | refine br_not ?_ | refine br_d (fun h => ?_) (fun h => ?_) | refine br_e (fun h => ?_) (fun h => ?_) | refine br_n (fun h => ?_) (fun h => ?_) | refine br_b (fun h => ?_) (fun h => ?_) | refine drw_fast (by kernel_rfl) ?_ | refine chk (by kernel_rfl) ?_ | refine stop ?_)
  all_goals refine Stop.mk ?_
  have hb11 : SlB _ A2 (cb - 0) (awB.take 11) := slB_take hb 11 (by decide)
  refine call_fn [] (dof_fn (b := awB.take 11) (by decide) hb11 (by decide)) rfl trivial (by decide) ?_
  rintro sv H' G' ⟨rfl, rfl⟩ hg
  replace hb := Sl.to hg hb
  clear hg hb11
  refine ⟨Nat.le_of_ble_eq_true rfl, ?_⟩
  rw [show (dOf (awB.take 11)).sv = .agg [.v (.int .i64 0), .v (.int .i64 0), .v (.int .i64 0), .v (.int .i64 6)] by rw [show dOf (awB.take 11) = ⟨0, 0, 0, 6⟩ by decide +kernel]; rfl]
  repeat' ((fail_if_success with_reducible refine Stop.mk ?_); (conv => whnf); with_reducible first | refine br_t ?_ | refine br_f ?_ | refine br_nn ?_ | refine br_ns ?_ | refine br_not ?_ | refine br_d (fun h => ?_) (fun h => ?_) | refine br_e (fun h => ?_) (fun h => ?_) | refine br_n (fun h => ?_) (fun h => ?_) | refine br_b (fun h => ?_) (fun h => ?_) | refine drw_fast (by kernel_rfl) ?_ | refine chk (by kernel_rfl) ?_ | refine stop ?_)
  all_goals refine Stop.mk ?_
  exact fin_id hE 0 rfl rfl rfl rfl ⟨rfl, rfl⟩
/-! ### the bound -/
theorem dBody_lin {d : List Int} (hb : isB d) (hl : d.length ≤ 1000000) : 0 ≤ (dBody d).blocks ∧ 0 ≤ (dBody d).instrs ∧ 0 ≤ (dBody d).pairs ∧ 0 ≤ (dBody d).bytes ∧ (dBody d).bytes ≤ d.length ∧
    3 * (dBody d).blocks + 2 * (dBody d).instrs + 2 * (dBody d).pairs ≤ 2 * d.length ∧ (dBody d).blocks + (dBody d).instrs + (dBody d).pairs ≤ d.length := by
  have hsum := dSplit_len [1, 2, 3] (d, 0)
  dsimp only at hsum
  have hsu : ∀ x ∈ (splitS [1, 2, 3] (d, 0)).1, isB x := fun x hx => by
    have hst : ∀ (id : Int) (p : Ps), isB p.1 → isB (stepS id p).1 := fun id p hp => sBytes_isb (isB_suf hp ((step2_suf _).trans (step1_suf _ _)))
    have h1 : isB (stepS 1 (d, 0)).2.1 := isB_suf hb (stepS_suf _ _)
    have h2 : isB (stepS 2 (stepS 1 (d, 0)).2).2.1 := isB_suf h1 (stepS_suf _ _)
    simp only [splitS, List.mem_cons, List.not_mem_nil, or_false] at hx
    rcases hx with rfl | rfl | rfl
    · exact hst _ _ hb
    · exact hst _ _ h1
    · exact hst _ _ h2
  unfold dBody
  by_cases hz : (splitR [1, 2, 3] d).2 = 0
  rotate_left
  · rw [if_pos hz]; dsimp only; omega
  rw [if_neg (by simp [hz])]
  obtain ⟨X, Y, Z, hd1, hd2⟩ := split3 hb (by omega) hz
  have hf : dFirst d = dFn (X, 0) := by unfold dFirst; rw [hd2]; rfl
  have hse : dSecond d = dMFn (Y, 0) := by unfold dSecond; rw [hd2]; rfl
  have hg3 : (splitS [1, 2, 3] (d, 0)).1.getD 2 [] = Z := by rw [hd2]; rfl
  rw [hf, hse, hg3]
  rw [hd2] at hsu
  have hbX := hsu X (by simp)
  have hbY := hsu Y (by simp)
  have hbZ := hsu Z (by simp)
  rw [hd1, sumL_cons, sumL_cons, sumL_cons, show sumL [] = 0 from rfl] at hsum
  have hL : sumL [X, Y, Z] = X.length + (Y.length + (Z.length + 0)) := by rw [sumL_cons, sumL_cons, sumL_cons]; rfl
  rw [hd1, hL]
  obtain ⟨k1, k2, k3, k4, k5⟩ := dFn_lin hbX
  obtain ⟨m1, m2, m3, m4, m5⟩ := dMFn_lin hbY
  have w1 := dInv_lin (vregs := (dFn (X, 0)).1.1.regs) (regs := (dMFn (Y, 0)).1.1.regs) (slots := (dMFn (Y, 0)).1.1.slots) (n := (dFn (X, 0)).1.1.blocks) hbZ k5.2.1 m5.2.1.2 m5.2.2.1.2
  dsimp only
  split
  · dsimp only; omega
  · split
    · dsimp only; omega
    · dsimp only; omega
theorem dOf_lin {b : List Int} (hb : isB b) (hl : b.length ≤ 1000000) : 0 ≤ (dOf b).blocks ∧ 0 ≤ (dOf b).instrs ∧ 0 ≤ (dOf b).pairs ∧ 0 ≤ (dOf b).bytes ∧ (dOf b).bytes ≤ b.length ∧
    3 * (dOf b).blocks + 2 * (dOf b).instrs + 2 * (dOf b).pairs ≤ 2 * b.length ∧ (dOf b).blocks + (dOf b).instrs + (dOf b).pairs ≤ b.length := by
  unfold dOf
  split
  · have h := dBody_lin (isB_drop hb 3) (by rw [List.length_drop]; omega)
    rw [List.length_drop] at h
    omega
  · dsimp only; omega
theorem dOf_ok {b : List Int} (hb : isB b) (hl : b.length ≤ 1000000) : okCst (dOf b) 100000000 := by
  have h := dOf_lin hb hl
  unfold okCst
  omega
set_option maxHeartbeats 8000000 in
theorem dlinear_fn {G : Gh} {A : Option Addr} {b : List Int} {c : Nat} (hbb : isB b) (hb : SlB G A c b) :
    Ct Try.prog 4 [.v (.slice A b.length c)] [] G fun sv H' G' => sv = .v (.bool true) ∧ H' = [] := by
  refine fn_of follows [] Try.func4 rfl rfl fun E hE => ?_
  repeat' ((fail_if_success with_reducible refine Stop.mk ?_); (conv => whnf); with_reducible first | refine br_t ?_ | refine br_f ?_ | refine br_nn ?_ | refine br_ns ?_ | refine br_not ?_ | refine br_d (fun h => ?_) (fun h => ?_) | refine br_e (fun h => ?_) (fun h => ?_) | refine br_n (fun h => ?_) (fun h => ?_) | refine drw_fast (by kernel_rfl) ?_ | refine chk (by kernel_rfl) ?_ | refine stop ?_)
  all_goals refine Stop.mk ?_
  refine call_fn [] (awake21_fn _) rfl trivial (by decide) ?_
  rintro sv H' G' ⟨rfl, rfl⟩ hg
  refine ⟨Nat.le_of_ble_eq_true rfl, ?_⟩
  replace hb := Sl.to hg hb
  clear hg
  repeat' ((fail_if_success with_reducible refine Stop.mk ?_); (conv => whnf); with_reducible first | refine br_t ?_ | refine br_f ?_ | refine br_nn ?_ | refine br_ns ?_ | refine br_not ?_ | refine br_d (fun h => ?_) (fun h => ?_) | refine br_e (fun h => ?_) (fun h => ?_) | refine br_n (fun h => ?_) (fun h => ?_) | refine br_b (fun h => ?_) (fun h => ?_) | refine drw_fast (by kernel_rfl) ?_ | refine chk (by kernel_rfl) ?_ | refine stop ?_)
  all_goals refine Stop.mk ?_
  ·
    refine call_fn [] (awake21_fn _) rfl trivial (by decide) ?_
    rintro sv H' G' ⟨rfl, rfl⟩ -
    refine ⟨Nat.le_of_ble_eq_true rfl, ?_⟩
    repeat' ((fail_if_success with_reducible refine Stop.mk ?_); (conv => whnf); with_reducible first | refine br_t ?_ | refine br_f ?_ | refine br_nn ?_ | refine br_ns ?_ | refine br_not ?_ | refine br_d (fun h => ?_) (fun h => ?_) | refine br_e (fun h => ?_) (fun h => ?_) | refine br_n (fun h => ?_) (fun h => ?_) | refine drw_fast (by kernel_rfl) ?_ | refine chk (by kernel_rfl) ?_ | refine stop ?_)
    all_goals refine Stop.mk ?_
    exact fin_id hE 0 rfl rfl rfl rfl ⟨rfl, rfl⟩
  have hl : b.length ≤ 3000 := by omega
  have hlin := dOf_lin hbb (by omega)
  have hok := dOf_ok hbb (by omega)
  refine call_fn [] (dof_fn hbb hb (by omega)) rfl trivial (by decide) ?_
  rintro sv H' G' ⟨rfl, rfl⟩ -
  refine ⟨Nat.le_of_ble_eq_true rfl, ?_⟩
  generalize dOf b = x at *
  obtain ⟨x1, x2, x3, x4⟩ := x
  obtain ⟨l1, l2, l3, l4, l5, l6, l7⟩ := hlin
  dsimp only at l1 l2 l3 l4 l5 l6 l7
  have w1 : IntKind.i64.wrap (3 * x1) = 3 * x1 := i64_in (by omega) (by omega)
  have w2 : IntKind.i64.wrap (2 * x2) = 2 * x2 := i64_in (by omega) (by omega)
  have w3 : IntKind.i64.wrap (2 * x3) = 2 * x3 := i64_in (by omega) (by omega)
  have w4 : IntKind.i64.wrap (2 * (b.length : Int)) = 2 * (b.length : Int) := i64_in (by omega) (by omega)
  have w5 : IntKind.i64.wrap (IntKind.i64.wrap (IntKind.i64.wrap (3 * x1) + IntKind.i64.wrap (2 * x2)) + IntKind.i64.wrap (2 * x3)) = 3 * x1 + 2 * x2 + 2 * x3 := by
    rw [w1, w2, w3, i64_in (n := 3 * x1 + 2 * x2) (by omega) (by omega), i64_in (by omega) (by omega)]
  rw [show (Cst.mk x1 x2 x3 x4).sv = .agg [.v (.int .i64 x1), .v (.int .i64 x2), .v (.int .i64 x3), .v (.int .i64 x4)] from rfl]
  repeat' ((fail_if_success with_reducible refine Stop.mk ?_); (conv => whnf); first | with_reducible refine br_t ?_ | with_reducible refine br_f ?_ | with_reducible refine br_nn ?_ | with_reducible refine br_ns ?_ | with_reducible refine br_not ?_ | ((with_reducible refine br_d (fun h => ?_) (fun h => ?_)) <;> try (exfalso; omega)) | ((with_reducible refine br_e (fun h => ?_) (fun h => ?_)) <;> try (exfalso; omega)) | ((with_reducible refine br_n (fun h => ?_) (fun h => ?_)) <;> try (exfalso; omega)) | with_reducible refine drw_fast (by kernel_rfl) ?_ | with_reducible refine chk (by kernel_rfl) ?_ | with_reducible refine stop ?_)
  all_goals refine Stop.mk ?_
  refine call_fn [] (dtotal_fn ⟨x1, x2, x3, x4⟩ hok) rfl trivial (by decide) ?_
  rintro sv H' G' ⟨rfl, rfl, rfl⟩ -
  refine ⟨Nat.le_of_ble_eq_true rfl, ?_⟩
  repeat' ((fail_if_success with_reducible refine Stop.mk ?_); (conv => whnf); first | with_reducible refine br_t ?_ | with_reducible refine br_f ?_ | with_reducible refine br_nn ?_ | with_reducible refine br_ns ?_ | with_reducible refine br_not ?_ | ((with_reducible refine br_d (fun h => ?_) (fun h => ?_)) <;> try (exfalso; omega)) | ((with_reducible refine br_e (fun h => ?_) (fun h => ?_)) <;> try (exfalso; omega)) | ((with_reducible refine br_n (fun h => ?_) (fun h => ?_)) <;> try (exfalso; omega)) | with_reducible refine drw_fast (by kernel_rfl) ?_ | with_reducible refine chk (by kernel_rfl) ?_ | with_reducible refine stop ?_)
  all_goals refine Stop.mk ?_
  refine fin_id hE 0 rfl rfl rfl rfl ⟨congrArg (fun e => SV.v (.bool e)) ?_, rfl⟩
  exact decide_eq_true (by dsimp only; omega)
end Go.Proofs.Ytkhajngpcgmpnaa.Cu
