/- The law of the counts. -/
import Derived.Test.YtihnbkoeaaepiaaCu7
namespace Go.Proofs.Ytihnbkoeaaepiaa.Cu
open Go Go.SX Go.Proofs.Ytihnbkoeaaepiaa.VT
set_option maxRecDepth 100000
set_option linter.unusedVariables false
set_option linter.unusedSimpArgs false
set_option maxHeartbeats 8000000 in
theorem counts_fn (G : Gh) (A : Option Addr) (c : Nat) (bs : List Int) (most size : Int) (hb : isB bs) (hs : SlB G A c bs) (hm0 : 0 ≤ most) (hm : most < 65536) (hz0 : 0 ≤ size) (hz : size < 256) :
    Ct Try.prog 3 [.v (.slice A bs.length c), .v (.int .u16 most), .v (.int .u8 size)] [] G fun sv H' G' => sv = .v (.bool true) ∧ H' = [] := by
  have htop := hs.top
  have hcap := hs.cap
  refine fn_of follows [] Try.func3 rfl rfl fun E hE => ?_
  repeat' ((fail_if_success with_reducible refine Stop.mk ?_); (conv => whnf); with_reducible first | refine br_t ?_ | refine br_f ?_ | refine br_nn ?_ | refine br_ns ?_ | refine br_not ?_ | refine br_d (fun h => ?_) (fun h => ?_) | refine br_e (fun h => ?_) (fun h => ?_) | refine br_n (fun h => ?_) (fun h => ?_) | refine drw (by kernel_rfl) ?_ | refine stop ?_)
  all_goals refine Stop.mk ?_
  refine call_fn [] (awake_fn G) rfl trivial (by decide) ?_
  rintro sv H' G' ⟨rfl, rfl⟩ hg
  replace hs := hs.to hg
  clear hg
  refine ⟨by simp, ?_⟩
  repeat' ((fail_if_success with_reducible refine Stop.mk ?_); (conv => whnf); with_reducible first | refine br_t ?_ | refine br_f ?_ | refine br_nn ?_ | refine br_ns ?_ | refine br_not ?_ | refine br_d (fun h => ?_) (fun h => ?_) | refine br_e (fun h => ?_) (fun h => ?_) | refine br_n (fun h => ?_) (fun h => ?_) | refine drw (by kernel_rfl) ?_ | refine stop ?_)
  all_goals refine Stop.mk ?_
  · refine call_fn [] (awake_fn _) rfl trivial (by decide) ?_
    rintro sv H' G' ⟨rfl, rfl⟩ -
    refine ⟨by simp, ?_⟩
    repeat' ((fail_if_success with_reducible refine Stop.mk ?_); (conv => whnf); with_reducible first | refine br_t ?_ | refine br_f ?_ | refine br_nn ?_ | refine br_ns ?_ | refine br_not ?_ | refine br_d (fun h => ?_) (fun h => ?_) | refine br_e (fun h => ?_) (fun h => ?_) | refine br_n (fun h => ?_) (fun h => ?_) | refine drw (by kernel_rfl) ?_ | refine stop ?_)
    all_goals refine Stop.mk ?_
    exact fin_all ⟨rfl, rfl⟩
  refine call_fn [] (new_fn _ A bs c hs (by omega)) rfl trivial (by decide) ?_
  rintro sv H' G' ⟨A1, c1, rfl, rfl, hs1⟩ -
  refine ⟨by simp, ?_⟩
  clear hs htop hcap
  have htop := hs1.top
  have hcap := hs1.cap
  repeat' ((fail_if_success with_reducible refine Stop.mk ?_); (conv => whnf); with_reducible first | refine br_t ?_ | refine br_f ?_ | refine br_nn ?_ | refine br_ns ?_ | refine br_not ?_ | refine br_d (fun h => ?_) (fun h => ?_) | refine br_e (fun h => ?_) (fun h => ?_) | refine br_n (fun h => ?_) (fun h => ?_) | refine drw (by kernel_rfl) ?_ | refine stop ?_)
  all_goals refine Stop.mk ?_
  rw [show IntKind.i64.wrap most = most from i64_in (by omega) (by omega), show IntKind.i64.wrap size = size from i64_in (by omega) (by omega)]
  refine call_fn [0] (count_fn _ A1 bs c1 0 0 most size hb hs1 (by omega) (by omega) (by omega)) rfl ⟨rfl, trivial⟩ (by decide) ?_
  rintro sv H' G' ⟨rfl, rfl, rfl⟩ -
  refine ⟨by simp, ?_⟩
  have hf := resC_form hb most size
  have hcc : cCount bs 0 0 most size = ((resC most size bs).1, (resC most size bs).2.1.toNat, (resC most size bs).2.2) := by
    unfold cCount; rw [if_neg (by decide), List.drop_zero, Nat.zero_add]
  have hwm : IntKind.i64.wrap most = most := i64_in (by omega) (by omega)
  have hwz : IntKind.i64.wrap size = size := i64_in (by omega) (by omega)
  rcases hf with ⟨e, he, hd⟩ | ⟨n, m, -, -, hd, -, hn, hfit, hml, -⟩
  · rw [show (cCount bs 0 0 most size).1 = 0 by rw [hcc, hd], show (cCount bs 0 0 most size).2.1 = 0 by rw [hcc, hd]; rfl, show (cCount bs 0 0 most size).2.2 = e by rw [hcc, hd]]
    repeat' ((fail_if_success with_reducible refine Stop.mk ?_); (conv => whnf); with_reducible first | refine br_t ?_ | refine br_f ?_ | refine br_nn ?_ | refine br_ns ?_ | refine br_not ?_ | refine br_d (fun h => ?_) (fun h => ?_) | refine br_e (fun h => ?_) (fun h => ?_) | refine br_n (fun h => ?_) (fun h => ?_) | refine drw (by kernel_rfl) ?_ | refine stop ?_)
    all_goals refine Stop.mk ?_
    refine call_fn [0] (err_fn _ A1 bs.length c1 (0 : Nat) e) rfl ⟨rfl, trivial⟩ (by decide) ?_
    rintro sv H' G' ⟨rfl, rfl, rfl⟩ -
    refine ⟨by simp, ?_⟩
    repeat' ((fail_if_success with_reducible refine Stop.mk ?_); (conv => whnf); with_reducible first | refine br_t ?_ | refine br_f ?_ | refine br_nn ?_ | refine br_ns ?_ | refine br_not ?_ | refine br_d (fun h => ?_) (fun h => ?_) | refine br_e (fun h => ?_) (fun h => ?_) | refine br_n (fun h => ?_) (fun h => ?_) | refine drw (by kernel_rfl) ?_ | refine stop ?_)
    all_goals refine Stop.mk ?_
    all_goals try (exfalso; omega)
    refine call_fn [0] (at_fn _ A1 bs.length c1 (0 : Nat) e) rfl ⟨rfl, trivial⟩ (by decide) ?_
    rintro sv H' G' ⟨rfl, rfl, rfl⟩ -
    refine ⟨by simp, ?_⟩
    repeat' ((fail_if_success with_reducible refine Stop.mk ?_); (conv => whnf); with_reducible first | refine br_t ?_ | refine br_f ?_ | refine br_nn ?_ | refine br_ns ?_ | refine br_not ?_ | refine br_d (fun h => ?_) (fun h => ?_) | refine br_e (fun h => ?_) (fun h => ?_) | refine br_n (fun h => ?_) (fun h => ?_) | refine drw (by kernel_rfl) ?_ | refine stop ?_)
    all_goals refine Stop.mk ?_
    all_goals try (exfalso; omega)
    exact fin_id hE 0 rfl rfl rfl rfl ⟨rfl, rfl⟩
  · have hleft : leftN bs.length m 0 = bs.length - m := if_pos rfl
    rw [show (cCount bs 0 0 most size).1 = (n : Int) by rw [hcc, hd], show (cCount bs 0 0 most size).2.1 = m by rw [hcc, hd]; rfl, show (cCount bs 0 0 most size).2.2 = 0 by rw [hcc, hd]]
    repeat' ((fail_if_success with_reducible refine Stop.mk ?_); (conv => whnf); with_reducible first | refine br_t ?_ | refine br_f ?_ | refine br_nn ?_ | refine br_ns ?_ | refine br_not ?_ | refine br_d (fun h => ?_) (fun h => ?_) | refine br_e (fun h => ?_) (fun h => ?_) | refine br_n (fun h => ?_) (fun h => ?_) | refine drw (by kernel_rfl) ?_ | refine stop ?_)
    all_goals refine Stop.mk ?_
    refine call_fn [0] (err_fn _ A1 bs.length c1 m 0) rfl ⟨rfl, trivial⟩ (by decide) ?_
    rintro sv H' G' ⟨rfl, rfl, rfl⟩ -
    refine ⟨by simp, ?_⟩
    repeat' ((fail_if_success with_reducible refine Stop.mk ?_); (conv => whnf); with_reducible first | refine br_t ?_ | refine br_f ?_ | refine br_nn ?_ | refine br_ns ?_ | refine br_not ?_ | refine br_d (fun h => ?_) (fun h => ?_) | refine br_e (fun h => ?_) (fun h => ?_) | refine br_n (fun h => ?_) (fun h => ?_) | refine drw (by kernel_rfl) ?_ | refine stop ?_)
    all_goals refine Stop.mk ?_
    all_goals try (exfalso; omega)
    · refine call_fn [0] (at_fn _ A1 bs.length c1 m 0) rfl ⟨rfl, trivial⟩ (by decide) ?_
      rintro sv H' G' ⟨rfl, rfl, rfl⟩ -
      refine ⟨by simp, ?_⟩
      repeat' ((fail_if_success with_reducible refine Stop.mk ?_); (conv => whnf); with_reducible first | refine br_t ?_ | refine br_f ?_ | refine br_nn ?_ | refine br_ns ?_ | refine br_not ?_ | refine br_d (fun h => ?_) (fun h => ?_) | refine br_e (fun h => ?_) (fun h => ?_) | refine br_n (fun h => ?_) (fun h => ?_) | refine drw (by kernel_rfl) ?_ | refine stop ?_)
      all_goals refine Stop.mk ?_
      refine call_fn [0] (left_fn _ A1 bs.length c1 m 0 (by omega) (by omega) (by omega)) rfl ⟨rfl, trivial⟩ (by decide) ?_
      rintro sv H' G' ⟨rfl, rfl, rfl⟩ -
      refine ⟨by simp, ?_⟩
      rw [hleft]
      repeat' ((fail_if_success with_reducible refine Stop.mk ?_); (conv => whnf); with_reducible first | refine br_t ?_ | refine br_f ?_ | refine br_nn ?_ | refine br_ns ?_ | refine br_not ?_ | refine br_d (fun h => ?_) (fun h => ?_) | refine br_e (fun h => ?_) (fun h => ?_) | refine br_n (fun h => ?_) (fun h => ?_) | refine drw (by kernel_rfl) ?_ | refine stop ?_)
      all_goals refine Stop.mk ?_
      refine fin_id hE 0 rfl rfl rfl rfl ⟨?_, rfl⟩
      rw [show IntKind.i64.wrap ((m : Int) + ((bs.length : Int) - m)) = bs.length by rw [i64_in (by omega) (by omega)]; omega]
      exact congrArg (fun b => SV.v (.bool b)) (beq_self_eq_true _)
    · have h1 := hfit (by omega)
      have h2 : (n : Int) * size ≤ bs.length - m := Int.mul_le_of_le_ediv (by omega) h1
      have h3 : 0 ≤ (n : Int) * size := Int.mul_nonneg (by omega) (by omega)
      rw [hwz, i64_in (n := (n : Int) * size) (by omega) (by omega)]
      generalize hq : (n : Int) * size = q at *
      refine call_fn [0] (left_fn _ A1 bs.length c1 m 0 (by omega) (by omega) (by omega)) rfl ⟨rfl, trivial⟩ (by decide) ?_
      rintro sv H' G' ⟨rfl, rfl, rfl⟩ -
      refine ⟨by simp, ?_⟩
      rw [hleft]
      repeat' ((fail_if_success with_reducible refine Stop.mk ?_); (conv => whnf); with_reducible first | refine br_t ?_ | refine br_f ?_ | refine br_nn ?_ | refine br_ns ?_ | refine br_not ?_ | refine br_d (fun h => ?_) (fun h => ?_) | refine br_e (fun h => ?_) (fun h => ?_) | refine br_n (fun h => ?_) (fun h => ?_) | refine drw (by kernel_rfl) ?_ | refine stop ?_)
      all_goals refine Stop.mk ?_
      all_goals try (exfalso; omega)
      refine call_fn [0] (at_fn _ A1 bs.length c1 m 0) rfl ⟨rfl, trivial⟩ (by decide) ?_
      rintro sv H' G' ⟨rfl, rfl, rfl⟩ -
      refine ⟨by simp, ?_⟩
      repeat' ((fail_if_success with_reducible refine Stop.mk ?_); (conv => whnf); with_reducible first | refine br_t ?_ | refine br_f ?_ | refine br_nn ?_ | refine br_ns ?_ | refine br_not ?_ | refine br_d (fun h => ?_) (fun h => ?_) | refine br_e (fun h => ?_) (fun h => ?_) | refine br_n (fun h => ?_) (fun h => ?_) | refine drw (by kernel_rfl) ?_ | refine stop ?_)
      all_goals refine Stop.mk ?_
      refine call_fn [0] (left_fn _ A1 bs.length c1 m 0 (by omega) (by omega) (by omega)) rfl ⟨rfl, trivial⟩ (by decide) ?_
      rintro sv H' G' ⟨rfl, rfl, rfl⟩ -
      refine ⟨by simp, ?_⟩
      rw [hleft]
      repeat' ((fail_if_success with_reducible refine Stop.mk ?_); (conv => whnf); with_reducible first | refine br_t ?_ | refine br_f ?_ | refine br_nn ?_ | refine br_ns ?_ | refine br_not ?_ | refine br_d (fun h => ?_) (fun h => ?_) | refine br_e (fun h => ?_) (fun h => ?_) | refine br_n (fun h => ?_) (fun h => ?_) | refine drw (by kernel_rfl) ?_ | refine stop ?_)
      all_goals refine Stop.mk ?_
      refine fin_id hE 0 rfl rfl rfl rfl ⟨?_, rfl⟩
      rw [show IntKind.i64.wrap ((m : Int) + ((bs.length : Int) - m)) = bs.length by rw [i64_in (by omega) (by omega)]; omega]
      exact congrArg (fun b => SV.v (.bool b)) (beq_self_eq_true _)
end Go.Proofs.Ytihnbkoeaaepiaa.Cu
