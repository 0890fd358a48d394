/- The reference's variable-length integers. -/
import Derived.Test.YtgdfhpknhcjipaaVb
namespace Go.Proofs.Ytgdfhpknhcjipaa.Cu
open Go Go.SX Go.Proofs.Ytgdfhpknhcjipaa.VT
set_option maxRecDepth 100000
set_option linter.unusedVariables false

theorem from_last {v i : Nat} {c : Int} {r : List Int} (h : ¬ (((i : Int) = 9 ∧ c > 1) ∨ ((i : Int) > 0 ∧ c = 0))) (h0 : 0 ≤ c) (hc : c < 128) : from_ v i (vdec i (c :: r)) = ((v : Int) + c * ((2 ^ (7 * i) : Nat) : Int), (i : Int) + 1, 0) := by
  unfold vdec; rw [if_neg (by omega), if_pos hc]
  unfold from_
  simp only [if_true]
set_option maxHeartbeats 8000000 in
theorem refGet_fn (G : Gh) (A : Option Addr) (c : Nat) (bs : List Int) (hb : isB bs) (hs : SlB G A c bs) :
    Ct Try.prog 39 [.v (.slice A bs.length c)] [] G fun sv H' G' => sv = getR bs ∧ H' = [] ∧ G' = G := by
  refine fn_of follows [] Try.func39 rfl rfl fun E hE => ?_
  repeat' ((fail_if_success with_reducible refine Stop.mk ?_); (conv => whnf); with_reducible first | refine br_t ?_ | refine br_f ?_ | refine br_nn ?_ | refine br_ns ?_ | refine br_not ?_ | refine br_d (fun h => ?_) (fun h => ?_) | refine br_e (fun h => ?_) (fun h => ?_) | refine br_n (fun h => ?_) (fun h => ?_) | refine drw (by kernel_rfl) ?_ | refine chk (by kernel_rfl) ?_ | refine stop ?_)
  all_goals refine Stop.mk ?_
  refine loop_rule follows [] (α := Nat × Nat) (fun x s => ∃ i v p : Nat, x = (i, v) ∧ (i ≤ 9 ∧ p = 2 ^ (7 * i) ∧ InV bs i v) ∧
      s = ⟨mkF 51 [(0, .v (.slice A bs.length c)), (5, .v (.int .u64 v)), (6, .v (.int .u64 p)), (7, .v (.int .i64 i))], [], G⟩) (fun x => 10 - x.1) ⟨(0, 0), _, ⟨0, 0, 1, rfl, ⟨by omega, by simp, ?_⟩, rfl⟩, rfl, rfl, ?_⟩ ?_
  · exact ⟨by simp, by rw [List.drop_zero, from_zero _ (vdec_err hb)]⟩
  · (repeat' (first | exact trivial | exact .inl rfl | exact .inr rfl | refine And.intro ?_ ?_))
  rintro _ s ⟨i, v, p, rfl, ⟨h1, hp, h2⟩, rfl⟩
  repeat' ((fail_if_success with_reducible refine Stop.mk ?_); (conv => whnf); with_reducible first | refine br_t ?_ | refine br_f ?_ | refine br_nn ?_ | refine br_ns ?_ | refine br_not ?_ | refine br_d (fun h => ?_) (fun h => ?_) | refine br_e (fun h => ?_) (fun h => ?_) | refine br_n (fun h => ?_) (fun h => ?_) | refine drw (by kernel_rfl) ?_ | refine chk (by kernel_rfl) ?_ | refine stop ?_)
  all_goals refine Stop.mk ?_
  · refine ⟨⟨by omega, by omega⟩, _, hs, fun ad had => ?_⟩
    repeat' ((fail_if_success with_reducible refine Stop.mk ?_); (conv => whnf); with_reducible first | refine br_t ?_ | refine br_f ?_ | refine br_nn ?_ | refine br_ns ?_ | refine br_not ?_ | refine br_d (fun h => ?_) (fun h => ?_) | refine br_e (fun h => ?_) (fun h => ?_) | refine br_n (fun h => ?_) (fun h => ?_) | refine drw (by kernel_rfl) ?_ | refine chk (by kernel_rfl) ?_ | refine stop ?_)
    all_goals refine Stop.mk ?_
    refine ⟨_, el1 had (by omega), ?_⟩
    rw [Int.toNat_natCast]
    have hc := getD_isB hb (i := i) (by omega)
    have hstep := h2.2
    rw [drop_at (xs := bs) (i := i) (by omega)] at hstep
    generalize hcc : bs.getD i 0 = ch at *
    have hw2 : IntKind.i64.wrap ((i : Int) + 1) = ((i + 1 : Nat) : Int) := by rw [i64_in (by omega) (by omega)]; simp
    have hwc : IntKind.u64.wrap ch = ch := u64_in (by omega) (by omega)
    clear had hcc hb
    repeat' ((fail_if_success with_reducible refine Stop.mk ?_); (conv => whnf); with_reducible first | refine br_t ?_ | refine br_f ?_ | refine br_nn ?_ | refine br_ns ?_ | refine br_not ?_ | refine br_d (fun h => ?_) (fun h => ?_) | refine br_e (fun h => ?_) (fun h => ?_) | refine br_n (fun h => ?_) (fun h => ?_) | refine drw (by kernel_rfl) ?_ | refine chk (by kernel_rfl) ?_ | refine stop ?_)
    all_goals refine Stop.mk ?_
    all_goals first
      | exact fin_id hE 0 rfl rfl rfl rfl ⟨getR_of ((vs_bad (v := v) (i := i) (c := ch) (r := bs.drop (i + 1)) (by omega)).symm.trans hstep), rfl, rfl⟩
      | skip
    all_goals
      have hnb : ¬ (((i : Int) = 9 ∧ ch > 1) ∨ ((i : Int) > 0 ∧ ch = 0)) := by omega
      have hor := (or_step h1 h2.1 hnb hc.1 hc.2).2
      rw [← hp] at hor
      obtain ⟨d, hd⟩ : ∃ d : Nat, (ch % 128).toNat = d := ⟨_, rfl⟩
      rw [hd] at hor
      have hdp : ((d * p : Nat) : Int) = (d : Int) * p := by simp
      first
        | (have hlt : IntKind.u64.wrap ch < 128 := by assumption
           have hcd : ch = d := by omega
           have e1 : IntKind.u64.wrap ((v : Int) + IntKind.u64.wrap (IntKind.u64.wrap ch * (p : Int))) = (v : Int) + ch * p := by
             rw [hwc, hcd, ← hdp, u64_in (n := ((d * p : Nat) : Int)) (by omega) (by omega), u64_in (by omega) (by omega)]
           rw [e1, hw2]
           refine fin_id hE 0 rfl rfl rfl rfl ⟨getR_of ?_, rfl, rfl⟩
           rw [← hstep, from_last hnb hc.1 (by omega), hp]
           simp)
        | (have hge : ¬ IntKind.u64.wrap ch < 128 := by assumption
           have hcd : ch - 128 = d := by omega
           have hi8 : i ≤ 8 := by omega
           have hpt := pow7t i hi8
           rw [← hp] at hpt
           have e1 : IntKind.u64.wrap ((v : Int) + IntKind.u64.wrap (IntKind.u64.wrap (IntKind.u64.wrap ch - 128) * (p : Int))) = ((v + d * p : Nat) : Int) := by
             rw [hwc, hcd, u64_in (n := (d : Int)) (by omega) (by omega), ← hdp, u64_in (n := ((d * p : Nat) : Int)) (by omega) (by omega), u64_in (by omega) (by omega)]; simp
           have e2 : IntKind.u64.wrap ((p : Int) * 128) = ((p * 128 : Nat) : Int) := by rw [u64_in (by omega) (by omega)]; simp
           rw [e1, e2, hw2]
           refine ⟨(i + 1, v + d * p), _, ⟨i + 1, v + d * p, p * 128, rfl, ⟨by omega, by rw [hp, pow7s], ⟨hor.1, ?_⟩⟩, rfl⟩, ?_, rfl, rfl, ?_⟩
           · rw [← hstep, vs_more (v := v) (i := i) (c := ch) hnb hc.2 (by omega), hd, hp]
           · show 10 - (i + 1) < 10 - i; omega
           · (repeat' (first | exact trivial | exact .inl rfl | exact .inr rfl | refine And.intro ?_ ?_)))
  · refine fin_id hE 0 rfl rfl rfl rfl ⟨?_, rfl, rfl⟩
    have := h2.2
    rw [List.drop_eq_nil_of_le (by omega)] at this
    simp only [vdec, from_err v i 1 (by decide)] at this
    exact getR_of this
end Go.Proofs.Ytgdfhpknhcjipaa.Cu
