/- The cost of decoding: the reference's sum of lengths. -/
import Derived.Test.YtkhajngpcgmpnaaDc7
import Derived.Test.YtkhajngpcgmpnaaVTx
namespace Go.Proofs.Ytkhajngpcgmpnaa.Cu
open Go Go.SX Go.Proofs.Ytkhajngpcgmpnaa.VT
set_option maxRecDepth 100000
set_option linter.unusedVariables false
set_option linter.unusedSimpArgs false

theorem dStep_nil (id : Int) : (dStep id ([], 0)).2.2 ≠ 0 := by
  unfold dStep
  have h1 : sByte ([], 0) = (0, ([], 1)) := by unfold sByte; simp
  rw [h1]
  dsimp only
  have h2 : (if (0 : Int) ≠ id then sFail 7 ([], 1) else ([], 1)) = (([], 1) : Ps) := by split <;> rfl
  rw [h2, sCount_err (by decide), sBytes_err (by decide)]
  decide
theorem dStep_ne {id x : Int} {l : List Int} (h : x ≠ id) : (dStep id (x :: l, 0)).2.2 ≠ 0 := by
  unfold dStep
  have h1 : sByte (x :: l, 0) = (x, (l, 0)) := by unfold sByte; simp
  rw [h1]
  dsimp only
  rw [if_pos h]
  have h2 : (sFail 7 (l, 0)).2 ≠ 0 := sFail_ne (by decide)
  rw [sCount_err h2, sBytes_err h2]
  exact h2
/-- The step behind a good identifier. -/
theorem dStep_id {id : Int} {l : List Int} : dStep id (id :: l, 0) = sBytes (sCount 1099511627776 1 (l, 0)).1 (sCount 1099511627776 1 (l, 0)).2 := by
  unfold dStep
  have h1 : sByte (id :: l, 0) = (id, (l, 0)) := by unfold sByte; simp
  rw [h1]
  dsimp only
  rw [if_neg (by simp)]
theorem dStep_bad {id : Int} {l : List Int} (hb : isB l) (h : (vdec 0 l).2.2 ≠ 0 ∨ ∃ n m : Nat, vdec 0 l = ((n : Int), (m : Int), 0) ∧ l.length - m < n) : (dStep id (id :: l, 0)).2.2 ≠ 0 := by
  rw [dStep_id]
  have h2 : (sCount 1099511627776 1 (l, 0)).2.2 ≠ 0 := by
    unfold sCount
    rw [if_neg (show ¬ ((0 : Int) ≠ 0) by decide)]
    dsimp only
    rcases resC_form hb 1099511627776 1 with ⟨e, he, hr⟩ | ⟨n, m, _, _, hr, hv, _, h3, h4, _⟩
    · rw [hr, if_neg he]; exact he
    · exfalso
      have := h3 (by decide)
      rcases h with h | ⟨n', m', hv', hn'⟩
      · rw [hv] at h; exact h rfl
      · rw [hv] at hv'
        simp only [Prod.mk.injEq] at hv'
        omega
  rw [sBytes_err h2]
  exact h2
theorem dStep_good {id : Int} {l : List Int} {n m : Nat} (hb : isB l) (hl : l.length ≤ 1000000000) (hv : vdec 0 l = ((n : Int), (m : Int), 0)) (hm : m ≤ l.length) (hn : n ≤ l.length - m) : dStep id (id :: l, 0) = ((l.drop m).take n, ((l.drop m).drop n, 0)) := by
  rw [dStep_id]
  have hc : sCount 1099511627776 1 (l, 0) = ((n : Int), (l.drop m, 0)) := by
    have hw : whyC 1099511627776 1 (l.length : Int) (vdec 0 l) = 0 := by
      rw [hv]
      unfold whyC
      dsimp only
      rw [if_neg (by decide), if_neg (by omega), if_neg (by omega)]
    unfold sCount resC
    rw [if_neg (show ¬ ((0 : Int) ≠ 0) by decide)]
    dsimp only
    rw [if_neg (show ¬ ((1099511627776 : Int) < 0 ∨ (1 : Int) < 0) by omega), hw, hv]
    simp
  rw [hc]
  dsimp only
  unfold sBytes
  simp only [ne_eq, not_true_eq_false, if_false]
  rw [if_neg (by omega), if_neg (by rw [List.length_drop]; omega), Int.toNat_natCast]
set_option maxHeartbeats 8000000 in
theorem rlengths_fn {G : Gh} {A : Option Addr} {b : List Int} {c : Nat} (hbb : isB b) (hb : SlB G A c b) (h2 : b.length ≤ 1000000) :
    Ct Try.prog 25 [.v (.slice A b.length c)] [] G fun sv H' G' => sv = .v (.int .i64 (sumL (dSplit [1, 2, 3] (b, 0)))) ∧ H' = [] ∧ G' = G := by
  refine fn_of follows [] Try.func25 rfl rfl fun E hE => ?_
  repeat' ((fail_if_success with_reducible refine Stop.mk ?_); (conv => whnf); with_reducible first | refine br_t ?_ | refine br_f ?_ | refine br_nn ?_ | refine br_ns ?_ | refine br_not ?_ | refine br_d (fun h => ?_) (fun h => ?_) | refine br_e (fun h => ?_) (fun h => ?_) | refine br_n (fun h => ?_) (fun h => ?_) | refine drw (by kernel_rfl) ?_ | refine chk (by kernel_rfl) ?_ | refine stop ?_)
  all_goals refine Stop.mk ?_
  refine loop_vars follows [] (α := Nat × List Int × List (List Int) × Option Addr × Nat) (fun y => [(0, .v (.slice y.2.2.2.1 y.2.1.length y.2.2.2.2)), (3, .v (.int .i64 (sumL y.2.2.1))), (4, .v (.int .i64 ((y.1 + 1 : Nat) : Int)))])
    (fun y => []) (fun y => G)
    (fun y => y.1 ≤ 3 ∧ isB y.2.1 ∧ SlB G y.2.2.2.1 y.2.2.2.2 y.2.1 ∧ y.2.1.length ≤ b.length ∧ dSplit [1, 2, 3] (b, 0) = y.2.2.1 ++ dSplit (([1, 2, 3] : List Int).drop y.1) (y.2.1, 0) ∧ 0 ≤ sumL y.2.2.1 ∧ sumL y.2.2.1 ≤ (y.1 : Int) * 1000000) (fun y => 3 - y.1) (0, b, [], A, c)
    ⟨Nat.zero_le _, hbb, hb, Nat.le_refl _, rfl, Int.le_refl _, show sumL [] ≤ ((0 : Nat) : Int) * 1000000 from (by simp [sumL, sumI])⟩ rfl rfl ?_ ?_
  ·
    refine ⟨?_⟩
    (conv => whnf)
    (repeat' (first | exact trivial | exact .inl rfl | exact .inr rfl | refine And.intro ?_ ?_))
  clear hb
  rintro ⟨k, cur, acc, A1, c1⟩ ⟨hk, hcb, hb, hcl, hsp, hs0, hs1⟩
  dsimp only at hk hcb hb hcl hsp hs0 hs1 ⊢
  have hcap := hb.cap
  have htop := hb.top
  have hend : dSplit (([1, 2, 3] : List Int).drop k) (cur, 0) = [] → sumL (dSplit [1, 2, 3] (b, 0)) = sumL acc := fun h => by rw [hsp, h, List.append_nil]
  have hw1 : IntKind.i64.wrap (((k + 1 : Nat) : Int) + 1) = ((k + 1 + 1 : Nat) : Int) := by rw [i64_in (by omega) (by omega)]; omega
  repeat' ((fail_if_success with_reducible refine Stop.mk ?_); (conv => whnf); with_reducible first | refine br_t ?_ | refine br_f ?_ | refine br_nn ?_ | refine br_ns ?_ | refine br_not ?_ | refine br_d (fun h => ?_) (fun h => ?_) | refine br_e (fun h => ?_) (fun h => ?_) | refine br_n (fun h => ?_) (fun h => ?_) | refine drw (by kernel_rfl) ?_ | refine chk (by kernel_rfl) ?_ | refine stop ?_)
  all_goals refine Stop.mk ?_
  · have hk3 : k < 3 := by omega
    have hid : ([1, 2, 3] : List Int)[k]? = some ((k + 1 : Nat) : Int) := by
      rcases k with _ | _ | _ | k
      · rfl
      · rfl
      · rfl
      · omega
    have hstep := dSplit_step hid (cur, 0)
    refine fin_id hE 0 rfl rfl rfl rfl ⟨?_, rfl, rfl⟩
    have hc0 : cur = [] := List.eq_nil_of_length_eq_zero (by omega)
    rw [hend (by rw [hstep, hc0, if_pos (dStep_nil _)])]
  · have hk3 : k < 3 := by omega
    have hid : ([1, 2, 3] : List Int)[k]? = some ((k + 1 : Nat) : Int) := by
      rcases k with _ | _ | _ | k
      · rfl
      · rfl
      · rfl
      · omega
    have hstep := dSplit_step hid (cur, 0)
    generalize hidn : ((k + 1 : Nat) : Int) = id at *
    obtain ⟨x, l, rfl⟩ : ∃ x l, cur = x :: l := by
      cases cur with
      | nil => exact absurd rfl (by assumption)
      | cons x l => exact ⟨x, l, rfl⟩
    have hx := hcb x (by simp)
    have hbl : isB l := fun y hy => hcb y (List.mem_cons_of_mem _ hy)
    have hl1 : (x :: l).length = l.length + 1 := rfl
    have hwx : IntKind.i64.wrap x = x := i64_in (by omega) (by omega)
    refine ⟨⟨by omega, by omega⟩, _, hb, fun ad had => ?_⟩
    repeat' ((fail_if_success with_reducible refine Stop.mk ?_); (conv => whnf); with_reducible first | refine br_t ?_ | refine br_f ?_ | refine br_nn ?_ | refine br_ns ?_ | refine br_not ?_ | refine br_d (fun h => ?_) (fun h => ?_) | refine br_e (fun h => ?_) (fun h => ?_) | refine br_n (fun h => ?_) (fun h => ?_) | refine drw (by kernel_rfl) ?_ | refine chk (by kernel_rfl) ?_ | refine stop ?_)
    all_goals refine Stop.mk ?_
    refine ⟨_, el1 had (by simp), ?_⟩
    rw [show (x :: l).getD (Int.toNat 0) 0 = x from rfl]
    repeat' ((fail_if_success with_reducible refine Stop.mk ?_); (conv => whnf); with_reducible first | refine br_t ?_ | refine br_f ?_ | refine br_nn ?_ | refine br_ns ?_ | refine br_not ?_ | refine br_d (fun h => ?_) (fun h => ?_) | refine br_e (fun h => ?_) (fun h => ?_) | refine br_n (fun h => ?_) (fun h => ?_) | refine drw (by kernel_rfl) ?_ | refine chk (by kernel_rfl) ?_ | refine stop ?_)
    all_goals refine Stop.mk ?_
    all_goals rw [hwx] at h
    rotate_left
    · have hxi : x ≠ id := by simpa using h
      refine fin_id hE 0 rfl rfl rfl rfl ⟨?_, rfl, rfl⟩
      rw [hend (by rw [hstep, if_pos (dStep_ne hxi)])]
    have hxi : x = id := by simpa using h
    subst hxi
    refine ⟨⟨by omega, by omega⟩, fun A' hA' => ?_⟩
    have hs1' : SlB G A' (c1 - 1) l := slB_drop hb 1 (by omega) hA'
    rw [show (x :: l).length - Int.toNat 1 = l.length from rfl, show c1 - Int.toNat 1 = c1 - 1 from rfl]
    repeat' ((fail_if_success with_reducible refine Stop.mk ?_); (conv => whnf); with_reducible first | refine br_t ?_ | refine br_f ?_ | refine br_nn ?_ | refine br_ns ?_ | refine br_not ?_ | refine br_d (fun h => ?_) (fun h => ?_) | refine br_e (fun h => ?_) (fun h => ?_) | refine br_n (fun h => ?_) (fun h => ?_) | refine drw (by kernel_rfl) ?_ | refine chk (by kernel_rfl) ?_ | refine stop ?_)
    all_goals refine Stop.mk ?_
    refine call_fn [] (refGet_fn _ A' (c1 - 1) l hbl hs1') rfl trivial (by decide) ?_
    rintro sv H' G' ⟨rfl, rfl, rfl⟩ -
    refine ⟨Nat.le_of_ble_eq_true rfl, ?_⟩
    unfold getR
    have hform := vdec_form hbl
    have hbad := dStep_bad (id := x) hbl
    have hgood := fun n m => dStep_good (id := x) (n := n) (m := m) hbl (by omega)
    generalize vdec 0 l = d at *
    obtain ⟨dv, dn, de⟩ := d
    dsimp only
    repeat' ((fail_if_success with_reducible refine Stop.mk ?_); (conv => whnf); with_reducible first | refine br_t ?_ | refine br_f ?_ | refine br_nn ?_ | refine br_ns ?_ | refine br_not ?_ | refine br_d (fun h => ?_) (fun h => ?_) | refine br_e (fun h => ?_) (fun h => ?_) | refine br_n (fun h => ?_) (fun h => ?_) | refine drw (by kernel_rfl) ?_ | refine chk (by kernel_rfl) ?_ | refine stop ?_)
    all_goals refine Stop.mk ?_
    rotate_right
    · have hde : de ≠ 0 := by assumption
      refine fin_id hE 0 rfl rfl rfl rfl ⟨?_, rfl, rfl⟩
      rw [hend (by rw [hstep, if_pos (hbad (.inl hde))])]
    all_goals
      have hde : de = 0 := by assumption
      obtain ⟨n, m, hd, hn, hm⟩ : ∃ n m : Nat, (dv, dn, de) = ((n : Int), (m : Int), 0) ∧ n < 18446744073709551616 ∧ m ≤ l.length := by
        rcases hform with ⟨e, he, hd⟩ | ⟨n, m, hd, h3, h4, h5, _⟩
        · simp only [Prod.mk.injEq] at hd; omega
        · exact ⟨n, m, hd, h3, h5⟩
      have hd2 := hd
      simp only [Prod.mk.injEq] at hd2
      obtain ⟨rfl, rfl, rfl⟩ := hd2
      have hw4 : IntKind.u64.wrap (IntKind.i64.wrap (IntKind.i64.wrap (((x :: l).length : Int) - 1) - (m : Int))) = ((l.length - m : Nat) : Int) := by
        rw [i64_in (n := ((x :: l).length : Int) - 1) (by omega) (by omega), i64_in (n := ((x :: l).length : Int) - 1 - m) (by omega) (by omega), u64_in (by omega) (by omega)]
        omega
    · refine fin_id hE 0 rfl rfl rfl rfl ⟨?_, rfl, rfl⟩
      rw [hend (by rw [hstep, if_pos (hbad (.inr ⟨n, m, rfl, by omega⟩))])]
    · have hnl : n ≤ l.length - m := by omega
      have hst := hgood n m rfl hm hnl
      rw [hst] at hstep
      rw [if_neg (show ¬ (((l.drop m).take n, ((l.drop m).drop n, (0 : Int))) : List Int × Ps).2.2 ≠ 0 by simp)] at hstep
      have hw5 : IntKind.i64.wrap (IntKind.i64.wrap (1 + (m : Int)) + IntKind.i64.wrap (n : Int)) = ((1 + m + n : Nat) : Int) := by
        rw [i64_in (n := 1 + (m : Int)) (by omega) (by omega), i64_in (n := (n : Int)) (by omega) (by omega), i64_in (by omega) (by omega)]; omega
      have hw6 : IntKind.i64.wrap (sumL acc + IntKind.i64.wrap (n : Int)) = sumL acc + n := by
        rw [i64_in (n := (n : Int)) (by omega) (by omega), i64_in (by omega) (by omega)]
      rw [hw5]
      refine ⟨⟨by omega, by omega⟩, fun A2 hA2 => ?_⟩
      rw [Int.toNat_natCast] at hA2 ⊢
      have hs2 : SlB _ A2 (c1 - (1 + m + n)) ((x :: l).drop (1 + m + n)) := slB_drop hb (1 + m + n) (by omega) hA2
      have hdr : (x :: l).drop (1 + m + n) = (l.drop m).drop n := by rw [show 1 + m + n = (m + n) + 1 by omega, List.drop_succ_cons, List.drop_drop]
      have hdl : (x :: l).length - (1 + m + n) = ((l.drop m).drop n).length := by rw [← hdr, List.length_drop]
      rw [hdr] at hs2
      rw [hdl]
      repeat' ((fail_if_success with_reducible refine Stop.mk ?_); (conv => whnf); with_reducible first | refine br_t ?_ | refine br_f ?_ | refine br_nn ?_ | refine br_ns ?_ | refine br_not ?_ | refine br_d (fun h => ?_) (fun h => ?_) | refine br_e (fun h => ?_) (fun h => ?_) | refine br_n (fun h => ?_) (fun h => ?_) | refine drw (by kernel_rfl) ?_ | refine chk (by kernel_rfl) ?_ | refine stop ?_)
      all_goals refine Stop.mk ?_
      rw [hw1, hw6]
      have htl : ((l.drop m).take n).length = n := by rw [List.length_take, List.length_drop]; omega
      refine tell_here ⟨(k + 1, (l.drop m).drop n, acc ++ [(l.drop m).take n], A2, c1 - (1 + m + n)), ⟨by show k + 1 ≤ 3; omega, isB_drop (isB_drop hbl m) n, hs2, by simp only [List.length_drop]; omega, by rw [hsp, hstep, List.append_assoc]; rfl, by rw [sumL_snoc]; omega, by rw [sumL_snoc, htl]; dsimp only; omega⟩, by show 3 - (k + 1) < 3 - k; omega, rfl, rfl, ?_⟩
      rw [show sumL acc + (n : Int) = sumL (acc ++ [(l.drop m).take n]) by rw [sumL_snoc, htl]]
      refine ⟨?_⟩
      (conv => whnf)
      (repeat' (first | exact trivial | exact .inl rfl | exact .inr rfl | refine And.intro ?_ ?_))
  · have hk3 : k = 3 := by omega
    subst hk3
    refine fin_id hE 0 rfl rfl rfl rfl ⟨?_, rfl, rfl⟩
    rw [hend rfl]
end Go.Proofs.Ytkhajngpcgmpnaa.Cu
