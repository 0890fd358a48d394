/- The cost of decoding: what the reference counts in a function. -/
import Derived.Test.YtkhajngpcgmpnaaDcL
import Derived.Test.YtkhajngpcgmpnaaFuM
namespace Go.Proofs.Ytkhajngpcgmpnaa.Cu
open Go Go.SX Go.Proofs.Ytkhajngpcgmpnaa.VT
set_option maxRecDepth 100000
set_option linter.unusedVariables false
set_option linter.unusedSimpArgs false

theorem dBlks_cnt (regs : Int) (p : Ps) : (dBlks regs (cntB p).1 (cntB p).2).1 = (dBlks regs (sCount 1048576 3 p).1 (sCount 1048576 3 p).2).1 := by
  by_cases h : (sCount 1048576 3 p).1 = 0
  · have h1 : (cntB p).1 = 0 := h
    rw [h1, h]; rfl
  · have h1 : (cntB p).2 = (sCount 1048576 3 p).2 := by unfold cntB cntC; exact if_pos (decide_eq_true h)
    rw [h1]; rfl
theorem dMBlks_cnt (regs slots : Int) (p : Ps) : (dMBlks regs slots (cntB p).1 (cntB p).2).1 = (dMBlks regs slots (sCount 1048576 3 p).1 (sCount 1048576 3 p).2).1 := by
  by_cases h : (sCount 1048576 3 p).1 = 0
  · have h1 : (cntB p).1 = 0 := h
    rw [h1, h]; rfl
  · have h1 : (cntB p).2 = (sCount 1048576 3 p).2 := by unfold cntB cntC; exact if_pos (decide_eq_true h)
    rw [h1]; rfl
set_option maxHeartbeats 8000000 in
theorem rfunction_fn {G : Gh} {A : Option Addr} {c : Nat} {p r : Ps} (regs : Int) (hI : RIn G A c p r) (hb : isB p.1) (hr : 0 ≤ regs ∧ regs ≤ 1048576) :
    Ct Try.prog 29 [inS A c r, .v (.int .i64 regs), .v (.int .i64 (-1))] [] G fun sv H' G' => sv = .tup [.v (.int .i64 (cntB p).1), .v (.int .i64 (sumI (dBlks regs (cntB p).1 (cntB p).2).1))] ∧ H' = [] ∧ G' = G := by
  rw [dBlks_cnt]
  have hn1 : (cntB p).1 = (sCount 1048576 3 p).1 := rfl
  rw [hn1]
  clear hn1
  have hcr := sCount_range (most := 1048576) (size := 3) hb (by decide)
  have hbn : isB (sCount 1048576 3 p).2.1 := isB_sub hb (sCount_suf _ _ _)
  refine fn_of follows [] Try.func29 rfl rfl fun E hE => ?_
  repeat' ((fail_if_success with_reducible refine Stop.mk ?_); (conv => whnf); with_reducible first | refine br_t ?_ | refine br_f ?_ | refine br_nn ?_ | refine br_ns ?_ | refine br_not ?_ | refine br_d (fun h => ?_) (fun h => ?_) | refine br_e (fun h => ?_) (fun h => ?_) | refine br_n (fun h => ?_) (fun h => ?_) | refine drw (by kernel_rfl) ?_ | refine chk (by kernel_rfl) ?_ | refine stop ?_)
  all_goals refine Stop.mk ?_
  refine call_fn [] (r18Count_fn 3 hI hb (by decide)) rfl trivial (by decide) ?_
  rintro sv H' G' ⟨B1, d1, r1, rfl, hR1, rfl, rfl⟩ -
  refine ⟨Nat.le_of_ble_eq_true rfl, ?_⟩
  clear hI hb
  generalize sCount 1048576 3 p = qn at *
  have hpost : dBlks regs qn.1 qn.2 = rep (sBlkN regs qn.1) addN qn.1.toNat 0 qn.2 := rfl
  repeat' ((fail_if_success with_reducible refine Stop.mk ?_); (conv => whnf); with_reducible first | refine br_t ?_ | refine br_f ?_ | refine br_nn ?_ | refine br_ns ?_ | refine br_not ?_ | refine br_d (fun h => ?_) (fun h => ?_) | refine br_e (fun h => ?_) (fun h => ?_) | refine br_n (fun h => ?_) (fun h => ?_) | refine drw (by kernel_rfl) ?_ | refine chk (by kernel_rfl) ?_ | refine stop ?_)
  all_goals refine Stop.mk ?_
  refine loop_vars follows [] (α := Nat × Int × Ps × List Int × Option Addr × Nat × Ps) (fun x => [(9, .v (.int .i64 (sumI x.2.2.2.1))), (10, .v (.int .i64 x.2.1)), (11, .v (.int .i64 x.1))])
    (fun x => [inO x.2.2.2.2.1 x.2.2.2.2.2.1 x.2.2.2.2.2.2]) (fun x => G')
    (fun x => x.1 ≤ qn.1.toNat ∧ RIn G' x.2.2.2.2.1 x.2.2.2.2.2.1 x.2.2.1 x.2.2.2.2.2.2 ∧ isB x.2.2.1.1 ∧ Run (sBlkN regs qn.1) addN qn.1.toNat 0 qn.2 x.1 x.2.1 x.2.2.1 x.2.2.2.1 ∧ (x.2.2.1.2 = 0 → (0 ≤ x.2.1 ∧ x.2.1 ≤ 1048576) ∧ sumI x.2.2.2.1 = x.2.1))
    (fun x => qn.1.toNat - x.1) (0, 0, qn.2, [], B1, d1, r1)
    ⟨Nat.zero_le _, hR1, hbn, Run.start _ _ _, fun _ => ⟨⟨Int.le_refl _, by dsimp only; decide⟩, rfl⟩⟩ rfl rfl ?_ ?_
  ·
    refine ⟨?_⟩
    (conv => whnf)
    (repeat' (first | exact trivial | exact .inl rfl | exact .inr rfl | refine And.intro ?_ ?_))
  clear hR1 hbn
  rintro ⟨k, t, p1, acc, A1, c1, ri⟩ ⟨hk, hR, hpb, hrun, ht⟩
  dsimp only at hk hR hpb hrun ht ⊢
  have hw2 : IntKind.i64.wrap ((k : Int) + 1) = ((k + 1 : Nat) : Int) := by rw [i64_in (by omega) (by omega)]; simp
  have he1 := hR.he
  repeat' ((fail_if_success with_reducible refine Stop.mk ?_); (conv => whnf); with_reducible first | refine br_t ?_ | refine br_f ?_ | refine br_nn ?_ | refine br_ns ?_ | refine br_not ?_ | refine br_d (fun h => ?_) (fun h => ?_) | refine br_e (fun h => ?_) (fun h => ?_) | refine br_n (fun h => ?_) (fun h => ?_) | refine drw (by kernel_rfl) ?_ | refine chk (by kernel_rfl) ?_ | refine stop ?_)
  all_goals refine Stop.mk ?_
  · have hp0 : p1.2 = 0 := by rw [← he1]; assumption
    have hkk : k < qn.1.toNat := by omega
    obtain ⟨⟨ht1, ht2⟩, hsum⟩ := ht hp0
    have hcr2 := sCount_range (most := 1048576) (size := 2) hpb (by decide)
    refine call_fn [] (r18Count_fn 2 hR hpb (by decide)) rfl trivial (by decide) ?_
    rintro sv H' G' ⟨B5, d5, r5, rfl, hR5, rfl, rfl⟩ -
    refine ⟨Nat.le_of_ble_eq_true rfl, ?_⟩
    have hw3 : IntKind.i64.wrap (t + (sCount 1048576 2 p1).1) = t + (sCount 1048576 2 p1).1 := i64_in (by omega) (by omega)
    have hw4 : IntKind.i64.wrap (sumI acc + (sCount 1048576 2 p1).1) = sumI acc + (sCount 1048576 2 p1).1 := i64_in (by omega) (by omega)
    obtain ⟨u, hu⟩ : ∃ u, u = cntI t p1 := ⟨_, rfl⟩
    have hu1 : u.1 = (sCount 1048576 2 p1).1 := by rw [hu]; rfl
    have hbu : isB u.2.1 := by rw [hu]; exact isB_sub hpb (cntC_suf _ _ _ _ _)
    have hu3 : u.2.2 = 0 → t + u.1 ≤ 1048576 := by rw [hu]; exact cntI_le
    have hblk : sBlkN regs qn.1 t p1 = (u.1, (sTrm regs qn.1 (sCode regs u.1 u.2).2).2) := by rw [hu]; rfl
    have hnext := hrun.next hkk hp0 hblk (t + u.1) (fun _ => rfl)
    repeat' ((fail_if_success with_reducible refine Stop.mk ?_); (conv => whnf); with_reducible first | refine br_t ?_ | refine br_f ?_ | refine br_nn ?_ | refine br_ns ?_ | refine br_not ?_ | refine br_d (fun h => ?_) (fun h => ?_) | refine br_e (fun h => ?_) (fun h => ?_) | refine br_n (fun h => ?_) (fun h => ?_) | refine drw (by kernel_rfl) ?_ | refine chk (by kernel_rfl) ?_ | refine stop ?_)
    all_goals refine Stop.mk ?_
    all_goals rw [hw3] at h ⊢
    all_goals try
      refine call_fn [] (r18Fail_fn 6 hR5 (by decide)) rfl trivial (by decide) ?_
      rintro sv H' G' ⟨B5, d5, r5, rfl, hR5', rfl, rfl⟩ -
      refine ⟨Nat.le_of_ble_eq_true rfl, ?_⟩
      have hu2 : sFail 6 (sCount 1048576 2 p1).2 = u.2 := by rw [hu]; unfold cntI cntC; rw [if_neg (by simp only [decide_eq_true_eq]; omega)]
      rw [hu2] at hR5'
      clear hR5
      have hR5 := hR5'
      clear hR5'
      repeat' ((fail_if_success with_reducible refine Stop.mk ?_); (conv => whnf); with_reducible first | refine br_t ?_ | refine br_f ?_ | refine br_nn ?_ | refine br_ns ?_ | refine br_not ?_ | refine br_d (fun h => ?_) (fun h => ?_) | refine br_e (fun h => ?_) (fun h => ?_) | refine br_n (fun h => ?_) (fun h => ?_) | refine drw (by kernel_rfl) ?_ | refine chk (by kernel_rfl) ?_ | refine stop ?_)
      all_goals refine Stop.mk ?_
    all_goals try
      have hu2 : (sCount 1048576 2 p1).2 = u.2 := by rw [hu]; unfold cntI cntC; rw [if_pos (by simp only [decide_eq_true_eq]; omega)]
      rw [hu2] at hR5
    all_goals
      clear hu2 hw3 h hR
      rw [hw4]
      clear hw4
      rw [← hu1] at hcr2 ⊢
      clear hu1 hu
      refine loop_opq fun K0 hK0 => ?_
      refine loop_vars follows [] (α := Nat × Ps × List Ins × Option Addr × Nat × Ps) (fun x => [(14, .v (.int .i64 x.1))])
        (fun x => [inO x.2.2.2.1 x.2.2.2.2.1 x.2.2.2.2.2]) (fun x => G')
        (fun x => x.1 ≤ u.1.toNat ∧ RIn G' x.2.2.2.1 x.2.2.2.2.1 x.2.1 x.2.2.2.2.2 ∧ isB x.2.1.1 ∧ Run (fun (_ : Unit) => sIns regs) nxU u.1.toNat () u.2 x.1 () x.2.1 x.2.2.1)
        (fun x => u.1.toNat - x.1) (0, u.2, [], B5, d5, r5)
        ⟨Nat.zero_le _, hR5, hbu, Run.start _ _ _⟩ rfl rfl ?_ ?_
      ·
        refine ⟨?_⟩
        (conv => whnf)
        (repeat' (first | exact trivial | exact .inl rfl | exact .inr rfl | refine And.intro ?_ ?_))
      clear hpb hR5 hbu
      rintro ⟨j, p2, cs, A2, c2, r2⟩ ⟨hj, hR, hpb, hrun2⟩
      dsimp only at hj hR hpb hrun2 ⊢
      have hw5 : IntKind.i64.wrap ((j : Int) + 1) = ((j + 1 : Nat) : Int) := by rw [i64_in (by omega) (by omega)]; simp
      have he2 := hR.he
      have hexit2 : ∀ (hd : u.1.toNat ≤ j ∨ p2.2 ≠ 0), sCode regs u.1 u.2 = (cs, p2) := fun hd => hrun2.done hd
      repeat' ((fail_if_success with_reducible refine Stop.mk ?_); (conv => whnf); first | with_reducible refine br_t ?_ | with_reducible refine br_f ?_ | with_reducible refine br_nn ?_ | with_reducible refine br_ns ?_ | with_reducible refine br_not ?_ | ((with_reducible refine br_d (fun h => ?_) (fun h => ?_)) <;> try (exfalso; omega)) | ((with_reducible refine br_e (fun h => ?_) (fun h => ?_)) <;> try (exfalso; omega)) | ((with_reducible refine br_n (fun h => ?_) (fun h => ?_)) <;> try (exfalso; omega)) | with_reducible refine drw (by kernel_rfl) ?_ | with_reducible refine chk (by kernel_rfl) ?_ | with_reducible refine stop ?_)
      all_goals refine Stop.mk ?_
      · have hp20 : p2.2 = 0 := by rw [← he2]; assumption
        have hjj : j < u.1.toNat := by omega
        have hnext2 := hrun2.next hjj hp20 (x := (sIns regs p2).1) (p' := (sIns regs p2).2) rfl () (fun _ => rfl)
        have hpb3 := isB_sub hpb (sIns_suf regs p2)
        refine call_fn [] (rins_fn regs hR hpb (by omega) (by omega)) rfl trivial (by decide) ?_
        rintro sv H' G' ⟨B6, d6, r6, rfl, hR6, rfl, rfl⟩ -
        refine ⟨Nat.le_of_ble_eq_true rfl, ?_⟩
        clear hR hpb
        repeat' ((fail_if_success with_reducible refine Stop.mk ?_); (conv => whnf); with_reducible first | refine br_t ?_ | refine br_f ?_ | refine br_nn ?_ | refine br_ns ?_ | refine br_not ?_ | refine br_d (fun h => ?_) (fun h => ?_) | refine br_e (fun h => ?_) (fun h => ?_) | refine br_n (fun h => ?_) (fun h => ?_) | refine drw (by kernel_rfl) ?_ | refine chk (by kernel_rfl) ?_ | refine stop ?_)
        all_goals refine Stop.mk ?_
        rw [hw5]
        refine tell_here ⟨(j + 1, _, _, B6, d6, r6), ⟨by show j + 1 ≤ _; omega, hR6, hpb3, hnext2⟩, by show u.1.toNat - (j + 1) < u.1.toNat - j; omega, rfl, rfl, ?_⟩
        refine ⟨?_⟩
        (conv => whnf)
        (repeat' (first | exact trivial | exact .inl rfl | exact .inr rfl | refine And.intro ?_ ?_))
      all_goals
        have hsc := hexit2 (by first | exact .inl (by omega) | exact .inr (by rw [← he2]; assumption))
        refine Stop.mk (hK0 _ _ ?_)
        clear hK0
        repeat' ((fail_if_success with_reducible refine Stop.mk ?_); (conv => whnf); with_reducible first | refine br_t ?_ | refine br_f ?_ | refine br_nn ?_ | refine br_ns ?_ | refine br_not ?_ | refine br_d (fun h => ?_) (fun h => ?_) | refine br_e (fun h => ?_) (fun h => ?_) | refine br_n (fun h => ?_) (fun h => ?_) | refine drw (by kernel_rfl) ?_ | refine chk (by kernel_rfl) ?_ | refine stop ?_)
        all_goals refine Stop.mk ?_
        rw [hsc] at hblk hnext
        dsimp only at hblk hnext
        have hpb3 := isB_sub hpb (sTrm_suf regs qn.1 p2)
        have hst : (sTrm regs qn.1 p2).2.2 = 0 → u.2.2 = 0 := fun h0 => Classical.byContradiction fun h9 => by
          have h8 : p2.2 ≠ 0 := by
            have h7 := sCode_st (regs := regs) (k := u.1) h9
            rw [hsc] at h7
            rw [h7]; exact h9
          rw [sTrm_st h8 (by omega) (by omega)] at h0
          exact h8 h0
        refine call_fn [] (rtrm_fn regs qn.1 hR (by omega) (by omega) (by omega) (by omega)) rfl trivial (by decide) ?_
        rintro sv H' G' ⟨B6, d6, r6, rfl, hR6, rfl, rfl⟩ -
        refine ⟨Nat.le_of_ble_eq_true rfl, ?_⟩
        clear hR hpb
        generalize sTrm regs qn.1 p2 = xp at *
        obtain ⟨tm, p3⟩ := xp
        dsimp only at hst hpb3 hR6 hblk hnext
        repeat' ((fail_if_success with_reducible refine Stop.mk ?_); (conv => whnf); with_reducible first | refine br_t ?_ | refine br_f ?_ | refine br_nn ?_ | refine br_ns ?_ | refine br_not ?_ | refine br_d (fun h => ?_) (fun h => ?_) | refine br_e (fun h => ?_) (fun h => ?_) | refine br_n (fun h => ?_) (fun h => ?_) | refine drw (by kernel_rfl) ?_ | refine chk (by kernel_rfl) ?_ | refine stop ?_)
        all_goals refine Stop.mk ?_
        rw [hw2]
        refine tell_here ⟨(k + 1, t + u.1, p3, acc ++ [u.1], B6, d6, r6), ⟨by show k + 1 ≤ _; omega, hR6, hpb3, hnext, fun h0 => ⟨by have := hu3 (hst h0); dsimp only; omega, by rw [sumI_snoc, hsum]⟩⟩, by show qn.1.toNat - (k + 1) < qn.1.toNat - k; omega, rfl, rfl, ?_⟩
        rw [show sumI acc + u.1 = sumI (acc ++ [u.1]) from (sumI_snoc _ _).symm]
        refine ⟨?_⟩
        (conv => whnf)
        (repeat' (first | exact trivial | exact .inl rfl | exact .inr rfl | refine And.intro ?_ ?_))
  all_goals
    have he := hrun.done (by first | exact .inl (by omega) | exact .inr (by rw [← he1]; assumption))
    refine fin_id hE 0 rfl rfl rfl rfl ⟨?_, rfl, rfl⟩
    rw [hpost, he]
end Go.Proofs.Ytkhajngpcgmpnaa.Cu
