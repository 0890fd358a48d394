/- The cost of decoding: functions. -/
import Derived.Test.YtkhajngpcgmpnaaDc4
import Derived.Test.YtkhajngpcgmpnaaFu5
import Derived.Test.YtkhajngpcgmpnaaFu7
import Derived.Test.YtkhajngpcgmpnaaSXP
namespace Go.Proofs.Ytkhajngpcgmpnaa.Cu
open Go Go.SX Go.Proofs.Ytkhajngpcgmpnaa.VT
set_option maxRecDepth 100000
set_option linter.unusedVariables false
set_option linter.unusedSimpArgs false

set_option maxHeartbeats 8000000 in
theorem dsource_fn {G : Gh} {A : Option Addr} {bs : List Int} {c : Nat} {p : Ps} (x : Cst) (hC : CurOK G A c bs p) (hx : okCst x 100000000) :
    Ct Try.prog 20 [.p 0 0, .p 1 0] [xO x, curL A bs c p] G fun sv H' G' =>
      sv = (dFn p).1.1.sv ∧ H' = [xO ⟨x.blocks + (dFn p).1.1.blocks, x.instrs + sumI (dFn p).1.2, x.pairs, x.bytes⟩, curL A bs c (dFn p).2] ∧ G' = G := by
  have hra := sUint_range (most := 1048576) hC.isb
  have hCa := hC.next (sUint_suf 1048576 p)
  have hrr := sUint_range (most := 1048576) hCa.isb
  obtain ⟨q, hq⟩ : ∃ q, q = sHead p := ⟨_, rfl⟩
  have hq1 : q.1 = ((sUint 1048576 p).1, (sUint 1048576 (sUint 1048576 p).2).1) := by rw [hq]; rfl
  have hCq : CurOK G A c bs q.2 := by rw [hq]; exact hC.next (sHead_suf p)
  have hfn : dFn p = ((⟨q.1.1, q.1.2, 0, (cntB q.2).1⟩, (dBlks q.1.2 (cntB q.2).1 (cntB q.2).2).1), (dBlks q.1.2 (cntB q.2).1 (cntB q.2).2).2) := by rw [hq]; rfl
  rw [hfn]
  clear hfn
  refine fn_of follows [(1, (.cons 0 [] (.cons 2 [] (.alt (.cons 1 [] (.alt (.cons 3 [] (.cons 4 [] (.cons 5 [] (.cons 6 [] .nil)))) (.cons 5 [] (.cons 3 [] (.cons 4 [] (.cons 6 [] .nil)))))) (.cons 5 [] (.cons 1 [] (.cons 3 [] (.cons 4 [] (.cons 6 [] .nil)))))))))] Try.func20 rfl rfl fun E hE => ?_
  unfold xO
  repeat' ((fail_if_success with_reducible refine Stop.mk ?_); (conv => whnf); with_reducible first | refine br_t ?_ | refine br_f ?_ | refine br_nn ?_ | refine br_ns ?_ | refine br_not ?_ | refine br_d (fun h => ?_) (fun h => ?_) | refine br_e (fun h => ?_) (fun h => ?_) | refine br_n (fun h => ?_) (fun h => ?_) | refine drw_fast (by kernel_rfl) ?_ | refine chk (by kernel_rfl) ?_ | refine stop ?_)
  all_goals refine Stop.mk ?_
  refine And.intro ?_ ?_
  all_goals
    repeat' ((fail_if_success with_reducible refine Stop.mk ?_); (conv => whnf); with_reducible first | refine br_t ?_ | refine br_f ?_ | refine br_nn ?_ | refine br_ns ?_ | refine br_not ?_ | refine br_d (fun h => ?_) (fun h => ?_) | refine br_e (fun h => ?_) (fun h => ?_) | refine br_n (fun h => ?_) (fun h => ?_) | refine drw_fast (by kernel_rfl) ?_ | refine chk (by kernel_rfl) ?_ | refine stop ?_)
    all_goals refine Stop.mk ?_
  all_goals
    refine call_fn [1] (dsize_fn hC) rfl ⟨rfl, trivial⟩ (by decide) ?_
    rintro sv H' G' ⟨rfl, rfl, rfl⟩ -
    refine ⟨Nat.le_of_ble_eq_true rfl, ?_⟩
    repeat' ((fail_if_success with_reducible refine Stop.mk ?_); (conv => whnf); with_reducible first | refine br_t ?_ | refine br_f ?_ | refine br_nn ?_ | refine br_ns ?_ | refine br_not ?_ | refine br_d (fun h => ?_) (fun h => ?_) | refine br_e (fun h => ?_) (fun h => ?_) | refine br_n (fun h => ?_) (fun h => ?_) | refine drw_fast (by kernel_rfl) ?_ | refine chk (by kernel_rfl) ?_ | refine stop ?_)
    all_goals refine Stop.mk ?_
  all_goals try refine And.intro ?_ ?_
  all_goals try
    repeat' ((fail_if_success with_reducible refine Stop.mk ?_); (conv => whnf); with_reducible first | refine br_t ?_ | refine br_f ?_ | refine br_nn ?_ | refine br_ns ?_ | refine br_not ?_ | refine br_d (fun h => ?_) (fun h => ?_) | refine br_e (fun h => ?_) (fun h => ?_) | refine br_n (fun h => ?_) (fun h => ?_) | refine drw_fast (by kernel_rfl) ?_ | refine chk (by kernel_rfl) ?_ | refine stop ?_)
    all_goals refine Stop.mk ?_
  all_goals
    refine call_fn [1] (dsize_fn hCa) rfl ⟨rfl, trivial⟩ (by decide) ?_
    rintro sv H' G' ⟨rfl, rfl, rfl⟩ -
    refine ⟨Nat.le_of_ble_eq_true rfl, ?_⟩
    repeat' ((fail_if_success with_reducible refine Stop.mk ?_); (conv => whnf); with_reducible first | refine br_t ?_ | refine br_f ?_ | refine br_nn ?_ | refine br_ns ?_ | refine br_not ?_ | refine br_d (fun h => ?_) (fun h => ?_) | refine br_e (fun h => ?_) (fun h => ?_) | refine br_n (fun h => ?_) (fun h => ?_) | refine drw_fast (by kernel_rfl) ?_ | refine chk (by kernel_rfl) ?_ | refine stop ?_)
    all_goals refine Stop.mk ?_
  all_goals try refine And.intro ?_ ?_
  all_goals try
    repeat' ((fail_if_success with_reducible refine Stop.mk ?_); (conv => whnf); with_reducible first | refine br_t ?_ | refine br_f ?_ | refine br_nn ?_ | refine br_ns ?_ | refine br_not ?_ | refine br_d (fun h => ?_) (fun h => ?_) | refine br_e (fun h => ?_) (fun h => ?_) | refine br_n (fun h => ?_) (fun h => ?_) | refine drw_fast (by kernel_rfl) ?_ | refine chk (by kernel_rfl) ?_ | refine stop ?_)
    all_goals refine Stop.mk ?_
  all_goals try
    refine call_fn [1] (pfail_fn 9 (p := (sUint 1048576 (sUint 1048576 p).2).2)) rfl ⟨rfl, trivial⟩ (by decide) ?_
    rintro sv H' G' ⟨rfl, rfl, rfl⟩ -
    refine ⟨Nat.le_of_ble_eq_true rfl, ?_⟩
    have hq2 : sFail 9 (sUint 1048576 (sUint 1048576 p).2).2 = q.2 := by rw [hq]; unfold sHead; dsimp only; rw [if_pos (by assumption)]
    rw [hq2]
    repeat' ((fail_if_success with_reducible refine Stop.mk ?_); (conv => whnf); with_reducible first | refine br_t ?_ | refine br_f ?_ | refine br_nn ?_ | refine br_ns ?_ | refine br_not ?_ | refine br_d (fun h => ?_) (fun h => ?_) | refine br_e (fun h => ?_) (fun h => ?_) | refine br_n (fun h => ?_) (fun h => ?_) | refine drw_fast (by kernel_rfl) ?_ | refine chk (by kernel_rfl) ?_ | refine stop ?_)
    all_goals refine Stop.mk ?_
  all_goals try
    have hq2 : (sUint 1048576 (sUint 1048576 p).2).2 = q.2 := by rw [hq]; unfold sHead; dsimp only; rw [if_neg (by assumption)]
    rw [hq2]
  all_goals
    clear hq2 h
    have e1 : (sUint 1048576 p).1 = q.1.1 := by rw [hq1]
    have e2 : (sUint 1048576 (sUint 1048576 p).2).1 = q.1.2 := by rw [hq1]
    rw [e1] at hra ⊢
    rw [e2] at hrr ⊢
    clear e1 e2 hq1 hq
    refine call_fn [0, 1, 4, 2] (dblocks_fn x ⟨q.1.1, q.1.2, 0, 0⟩ hCq ⟨⟨hra.1, hra.2.2 (by decide)⟩, ⟨hrr.1, hrr.2.2 (by decide)⟩, by dsimp only; omega, by dsimp only; omega⟩ hx) rfl ⟨rfl, rfl, rfl, rfl, trivial⟩ (by decide) ?_
    rintro sv H' G' ⟨rfl, rfl, rfl⟩ -
    refine ⟨Nat.le_of_ble_eq_true rfl, ?_⟩
    repeat' ((fail_if_success with_reducible refine Stop.mk ?_); (conv => whnf); with_reducible first | refine br_t ?_ | refine br_f ?_ | refine br_nn ?_ | refine br_ns ?_ | refine br_not ?_ | refine br_d (fun h => ?_) (fun h => ?_) | refine br_e (fun h => ?_) (fun h => ?_) | refine br_n (fun h => ?_) (fun h => ?_) | refine drw_fast (by kernel_rfl) ?_ | refine chk (by kernel_rfl) ?_ | refine stop ?_)
    all_goals refine Stop.mk ?_
    exact fin_id hE 2 rfl rfl rfl rfl ⟨rfl, rfl, rfl⟩
set_option maxHeartbeats 8000000 in
theorem dmachine_fn {G : Gh} {A : Option Addr} {bs : List Int} {c : Nat} {p : Ps} (x : Cst) (hC : CurOK G A c bs p) (hx : okCst x 100000000) :
    Ct Try.prog 23 [.p 0 0, .p 1 0] [xO x, curL A bs c p] G fun sv H' G' =>
      sv = (dMFn p).1.1.sv ∧ H' = [xO ⟨x.blocks + (dMFn p).1.1.blocks, x.instrs + sumI (dMFn p).1.2, x.pairs, x.bytes⟩, curL A bs c (dMFn p).2] ∧ G' = G := by
  have hra := sUint_range (most := 1048576) hC.isb
  have hCa := hC.next (sUint_suf 1048576 p)
  have hrr := sUint_range (most := 1048576) hCa.isb
  have hCr := hCa.next (sUint_suf 1048576 (sUint 1048576 p).2)
  have hrs := sUint_range (most := 1048576) hCr.isb
  obtain ⟨q, hq⟩ : ∃ q, q = sMHead p := ⟨_, rfl⟩
  have hq1 : q.1 = ((sUint 1048576 p).1, (sUint 1048576 (sUint 1048576 p).2).1, (sUint 1048576 (sUint 1048576 (sUint 1048576 p).2).2).1) := by rw [hq]; rfl
  have hCq : CurOK G A c bs q.2 := by rw [hq]; exact hC.next (sMHead_suf p)
  have hfn : dMFn p = ((⟨q.1.1, q.1.2.1, q.1.2.2, (cntB q.2).1⟩, (dMBlks q.1.2.1 q.1.2.2 (cntB q.2).1 (cntB q.2).2).1), (dMBlks q.1.2.1 q.1.2.2 (cntB q.2).1 (cntB q.2).2).2) := by rw [hq]; rfl
  rw [hfn]
  clear hfn
  refine fn_of follows [(1, (.cons 0 [] (.cons 2 [] (.cons 4 [] (.alt (.cons 1 [] (.alt (.cons 3 [] (.alt (.cons 5 [] (.cons 6 [] (.cons 7 [] (.cons 8 [] .nil)))) (.cons 7 [] (.cons 5 [] (.cons 6 [] (.cons 8 [] .nil)))))) (.cons 7 [] (.cons 3 [] (.cons 5 [] (.cons 6 [] (.cons 8 [] .nil))))))) (.cons 7 [] (.cons 1 [] (.cons 3 [] (.cons 5 [] (.cons 6 [] (.cons 8 [] .nil)))))))))))] Try.func23 rfl rfl fun E hE => ?_
  unfold xO
  repeat' ((fail_if_success with_reducible refine Stop.mk ?_); (conv => whnf); with_reducible first | refine br_t ?_ | refine br_f ?_ | refine br_nn ?_ | refine br_ns ?_ | refine br_not ?_ | refine br_d (fun h => ?_) (fun h => ?_) | refine br_e (fun h => ?_) (fun h => ?_) | refine br_n (fun h => ?_) (fun h => ?_) | refine drw_fast (by kernel_rfl) ?_ | refine chk (by kernel_rfl) ?_ | refine stop ?_)
  all_goals refine Stop.mk ?_
  refine And.intro ?_ ?_
  all_goals
    repeat' ((fail_if_success with_reducible refine Stop.mk ?_); (conv => whnf); with_reducible first | refine br_t ?_ | refine br_f ?_ | refine br_nn ?_ | refine br_ns ?_ | refine br_not ?_ | refine br_d (fun h => ?_) (fun h => ?_) | refine br_e (fun h => ?_) (fun h => ?_) | refine br_n (fun h => ?_) (fun h => ?_) | refine drw_fast (by kernel_rfl) ?_ | refine chk (by kernel_rfl) ?_ | refine stop ?_)
    all_goals refine Stop.mk ?_
  all_goals
    refine call_fn [1] (dsize_fn hC) rfl ⟨rfl, trivial⟩ (by decide) ?_
    rintro sv H' G' ⟨rfl, rfl, rfl⟩ -
    refine ⟨Nat.le_of_ble_eq_true rfl, ?_⟩
    repeat' ((fail_if_success with_reducible refine Stop.mk ?_); (conv => whnf); with_reducible first | refine br_t ?_ | refine br_f ?_ | refine br_nn ?_ | refine br_ns ?_ | refine br_not ?_ | refine br_d (fun h => ?_) (fun h => ?_) | refine br_e (fun h => ?_) (fun h => ?_) | refine br_n (fun h => ?_) (fun h => ?_) | refine drw_fast (by kernel_rfl) ?_ | refine chk (by kernel_rfl) ?_ | refine stop ?_)
    all_goals refine Stop.mk ?_
  all_goals try refine And.intro ?_ ?_
  all_goals try
    repeat' ((fail_if_success with_reducible refine Stop.mk ?_); (conv => whnf); with_reducible first | refine br_t ?_ | refine br_f ?_ | refine br_nn ?_ | refine br_ns ?_ | refine br_not ?_ | refine br_d (fun h => ?_) (fun h => ?_) | refine br_e (fun h => ?_) (fun h => ?_) | refine br_n (fun h => ?_) (fun h => ?_) | refine drw_fast (by kernel_rfl) ?_ | refine chk (by kernel_rfl) ?_ | refine stop ?_)
    all_goals refine Stop.mk ?_
  all_goals
    refine call_fn [1] (dsize_fn hCa) rfl ⟨rfl, trivial⟩ (by decide) ?_
    rintro sv H' G' ⟨rfl, rfl, rfl⟩ -
    refine ⟨Nat.le_of_ble_eq_true rfl, ?_⟩
    repeat' ((fail_if_success with_reducible refine Stop.mk ?_); (conv => whnf); with_reducible first | refine br_t ?_ | refine br_f ?_ | refine br_nn ?_ | refine br_ns ?_ | refine br_not ?_ | refine br_d (fun h => ?_) (fun h => ?_) | refine br_e (fun h => ?_) (fun h => ?_) | refine br_n (fun h => ?_) (fun h => ?_) | refine drw_fast (by kernel_rfl) ?_ | refine chk (by kernel_rfl) ?_ | refine stop ?_)
    all_goals refine Stop.mk ?_
  all_goals try refine And.intro ?_ ?_
  all_goals try
    repeat' ((fail_if_success with_reducible refine Stop.mk ?_); (conv => whnf); with_reducible first | refine br_t ?_ | refine br_f ?_ | refine br_nn ?_ | refine br_ns ?_ | refine br_not ?_ | refine br_d (fun h => ?_) (fun h => ?_) | refine br_e (fun h => ?_) (fun h => ?_) | refine br_n (fun h => ?_) (fun h => ?_) | refine drw_fast (by kernel_rfl) ?_ | refine chk (by kernel_rfl) ?_ | refine stop ?_)
    all_goals refine Stop.mk ?_
  all_goals
    refine call_fn [1] (dsize_fn hCr) rfl ⟨rfl, trivial⟩ (by decide) ?_
    rintro sv H' G' ⟨rfl, rfl, rfl⟩ -
    refine ⟨Nat.le_of_ble_eq_true rfl, ?_⟩
    repeat' ((fail_if_success with_reducible refine Stop.mk ?_); (conv => whnf); with_reducible first | refine br_t ?_ | refine br_f ?_ | refine br_nn ?_ | refine br_ns ?_ | refine br_not ?_ | refine br_d (fun h => ?_) (fun h => ?_) | refine br_e (fun h => ?_) (fun h => ?_) | refine br_n (fun h => ?_) (fun h => ?_) | refine drw_fast (by kernel_rfl) ?_ | refine chk (by kernel_rfl) ?_ | refine stop ?_)
    all_goals refine Stop.mk ?_
  all_goals try refine And.intro ?_ ?_
  all_goals try
    repeat' ((fail_if_success with_reducible refine Stop.mk ?_); (conv => whnf); with_reducible first | refine br_t ?_ | refine br_f ?_ | refine br_nn ?_ | refine br_ns ?_ | refine br_not ?_ | refine br_d (fun h => ?_) (fun h => ?_) | refine br_e (fun h => ?_) (fun h => ?_) | refine br_n (fun h => ?_) (fun h => ?_) | refine drw_fast (by kernel_rfl) ?_ | refine chk (by kernel_rfl) ?_ | refine stop ?_)
    all_goals refine Stop.mk ?_
  all_goals try
    refine call_fn [1] (pfail_fn 10 (p := (sUint 1048576 (sUint 1048576 (sUint 1048576 p).2).2).2)) rfl ⟨rfl, trivial⟩ (by decide) ?_
    rintro sv H' G' ⟨rfl, rfl, rfl⟩ -
    refine ⟨Nat.le_of_ble_eq_true rfl, ?_⟩
    have hq2 : sFail 10 (sUint 1048576 (sUint 1048576 (sUint 1048576 p).2).2).2 = q.2 := by rw [hq]; unfold sMHead; dsimp only; rw [if_pos (by assumption)]
    rw [hq2]
    repeat' ((fail_if_success with_reducible refine Stop.mk ?_); (conv => whnf); with_reducible first | refine br_t ?_ | refine br_f ?_ | refine br_nn ?_ | refine br_ns ?_ | refine br_not ?_ | refine br_d (fun h => ?_) (fun h => ?_) | refine br_e (fun h => ?_) (fun h => ?_) | refine br_n (fun h => ?_) (fun h => ?_) | refine drw_fast (by kernel_rfl) ?_ | refine chk (by kernel_rfl) ?_ | refine stop ?_)
    all_goals refine Stop.mk ?_
  all_goals try
    have hq2 : (sUint 1048576 (sUint 1048576 (sUint 1048576 p).2).2).2 = q.2 := by rw [hq]; unfold sMHead; dsimp only; rw [if_neg (by assumption)]
    rw [hq2]
  all_goals
    clear hq2 h
    have e1 : (sUint 1048576 p).1 = q.1.1 := by rw [hq1]
    have e2 : (sUint 1048576 (sUint 1048576 p).2).1 = q.1.2.1 := by rw [hq1]
    have e3 : (sUint 1048576 (sUint 1048576 (sUint 1048576 p).2).2).1 = q.1.2.2 := by rw [hq1]
    rw [e1] at hra ⊢
    rw [e2] at hrr ⊢
    rw [e3] at hrs ⊢
    clear e1 e2 e3 hq1 hq
    refine call_fn [0, 1, 4, 2, 5] (dmblocks_fn x ⟨q.1.1, q.1.2.1, q.1.2.2, 0⟩ 0 hCq ⟨⟨hra.1, hra.2.2 (by decide)⟩, ⟨hrr.1, hrr.2.2 (by decide)⟩, ⟨hrs.1, hrs.2.2 (by decide)⟩, by dsimp only; omega⟩ hx) rfl ⟨rfl, rfl, rfl, rfl, rfl, trivial⟩ (by decide) ?_
    rintro sv H' G' ⟨rfl, w1, rfl, rfl⟩ -
    refine ⟨Nat.le_of_ble_eq_true rfl, ?_⟩
    repeat' ((fail_if_success with_reducible refine Stop.mk ?_); (conv => whnf); with_reducible first | refine br_t ?_ | refine br_f ?_ | refine br_nn ?_ | refine br_ns ?_ | refine br_not ?_ | refine br_d (fun h => ?_) (fun h => ?_) | refine br_e (fun h => ?_) (fun h => ?_) | refine br_n (fun h => ?_) (fun h => ?_) | refine drw_fast (by kernel_rfl) ?_ | refine chk (by kernel_rfl) ?_ | refine stop ?_)
    all_goals refine Stop.mk ?_
    exact fin_id hE 2 rfl rfl rfl rfl ⟨rfl, rfl, rfl⟩
end Go.Proofs.Ytkhajngpcgmpnaa.Cu
