/- Invariants: all that the reference reads. -/
import Derived.Test.YtkhajngpcgmpnaaWiB
import Derived.Test.YtkhajngpcgmpnaaSXg
namespace Go.Proofs.Ytkhajngpcgmpnaa.Cu
open Go Go.SX Go.Proofs.Ytkhajngpcgmpnaa.VT
set_option maxRecDepth 100000
set_option linter.unusedVariables false
set_option linter.unusedSimpArgs false

def inOw (A : Option Addr) (c : Nat) (r : Ps) : Ob := .cells 75 [.v (.slice A r.1.length c), .v (.int .i64 r.2)]
set_option maxHeartbeats 8000000 in
theorem rget_inv_fn {G : Gh} {A : Option Addr} {c : Nat} {p r : Ps} (blocks vregs regs slots : Int) (hR : RIn G A c p r) (hpb : isB p.1) (hb : 0 ≤ blocks ∧ blocks ≤ 2000000) (hv : 0 ≤ vregs ∧ vregs ≤ 1000000000) (hr : regs ≤ 1000000000) (hs : slots ≤ 1000000000) :
    Ct Try.prog 33 [inS A c r, .v (.int .i64 blocks), .v (.int .i64 vregs), .v (.int .i64 regs), .v (.int .i64 slots)] [] G fun sv H' G' =>
      ∃ v A' c' r', sv = .tup [v, inS A' c' r'] ∧ InvPost (if (sInv vregs regs slots blocks p).2.2 = 0 then (sInv vregs regs slots blocks p).1 else []) v G' ∧ RIn G' A' c' (sInv vregs regs slots blocks p).2 r' ∧ H' = [] := by
  refine fn_of follows [(20, (.cons 0 [] (.cons 1 [] (.cons 2 [0] .nil)))), (21, (.cons 0 [] (.cons 1 [] (.cons 2 [] (.cons 3 [1] .nil)))))] Try.func33 rfl rfl fun E hE => ?_
  repeat' ((fail_if_success with_reducible refine Stop.mk ?_); (conv => whnf); with_reducible first | refine br_t ?_ | refine br_f ?_ | refine br_nn ?_ | refine br_ns ?_ | refine br_not ?_ | refine br_d (fun h => ?_) (fun h => ?_) | refine br_e (fun h => ?_) (fun h => ?_) | refine br_n (fun h => ?_) (fun h => ?_) | refine drw (by kernel_rfl) ?_ | refine chk (by kernel_rfl) ?_ | refine stop ?_)
  all_goals refine Stop.mk ?_
  refine loop_gh (gh_birth 12 51 1 rfl) ?_
  rintro _ _ ⟨rfl, rfl⟩
  refine loop_vars follows [(20, (.cons 0 [] (.cons 1 [] (.cons 2 [0] .nil)))), (21, (.cons 0 [] (.cons 1 [] (.cons 2 [] (.cons 3 [1] .nil)))))] (α := Nat × Int × Ps × List (List Pr) × List Value × Gh × Option Addr × Nat × Ps) (fun x => [(12, .s 2), (13, .v (.int .i64 x.2.1)), (14, .v (.int .i64 x.1))])
    (fun x => [inOw x.2.2.2.2.2.2.1 x.2.2.2.2.2.2.2.1 x.2.2.2.2.2.2.2.2, inOw none 0 ([], 0), .row 51 1 x.1 x.2.2.2.2.1]) (fun x => x.2.2.2.2.2.1)
    (fun x => x.1 ≤ blocks.toNat ∧ RIn x.2.2.2.2.2.1 x.2.2.2.2.2.2.1 x.2.2.2.2.2.2.2.1 x.2.2.1 x.2.2.2.2.2.2.2.2 ∧ isB x.2.2.1.1 ∧ x.2.2.2.1.length = x.1 ∧ kPrs.Cs x.2.2.2.2.2.1 x.2.2.2.1 x.2.2.2.2.1 ∧ (∃ acc, Run (sBlk vregs regs slots) nxT blocks.toNat 0 p x.1 x.2.1 x.2.2.1 acc ∧ (x.2.2.1.2 = 0 → acc = x.2.2.2.1)) ∧ (x.2.2.1.2 = 0 → 0 ≤ x.2.1 ∧ x.2.1 ≤ 1048576))
    (fun x => blocks.toNat - x.1) (0, 0, p, [], [], G, A, c, r)
    ⟨Nat.zero_le _, hR, hpb, rfl, Kd.Cs.nil _ _, ⟨[], Run.start _ _ _, fun _ => rfl⟩, fun _ => ⟨Int.le_refl _, by dsimp only; decide⟩⟩ rfl rfl ?_ ?_
  ·
    refine ⟨?_⟩
    (conv => whnf)
    (repeat' (first | exact trivial | exact .inl rfl | exact .inr rfl | refine And.intro ?_ ?_))
  clear hR hpb
  rintro ⟨k, t, p1, os, vals, Gk, A1, c1, r1⟩ ⟨hk, hR, hpb, hol, hvals, ⟨acc, hrun, hacc⟩, ht⟩
  dsimp only at hk hR hpb hol hvals hrun hacc ht ⊢
  have hw2 : IntKind.i64.wrap ((k : Int) + 1) = ((k + 1 : Nat) : Int) := by rw [i64_in (by omega) (by omega)]; simp
  have hexit : ∀ (hd : blocks.toNat ≤ k ∨ p1.2 ≠ 0), sInv vregs regs slots blocks p = (acc, p1) := fun hd => hrun.done hd
  have he1 := hR.he
  repeat' ((fail_if_success with_reducible refine Stop.mk ?_); (conv => whnf); with_reducible first | refine br_t ?_ | refine br_f ?_ | refine br_nn ?_ | refine br_ns ?_ | refine br_not ?_ | refine br_d (fun h => ?_) (fun h => ?_) | refine br_e (fun h => ?_) (fun h => ?_) | refine br_n (fun h => ?_) (fun h => ?_) | refine drw (by kernel_rfl) ?_ | refine chk (by kernel_rfl) ?_ | refine stop ?_)
  all_goals refine Stop.mk ?_
  · have hp0 : p1.2 = 0 := by rw [← he1]; assumption
    obtain ⟨ht1, ht2⟩ := ht hp0
    have hcr := sCount_range (most := 1048576) (size := 2) hpb (by decide)
    refine call_fn [] (r18Count_fn 2 hR hpb (by decide)) rfl trivial (by decide) ?_
    rintro sv H' G' ⟨Bq, dq, rq, rfl, hR2, rfl, rfl⟩ -
    have hw3 : IntKind.i64.wrap (t + (sCount 1048576 2 p1).1) = t + (sCount 1048576 2 p1).1 := i64_in (by omega) (by omega)
    obtain ⟨q, hq⟩ : ∃ q, q = cntC 1048576 2 6 (fun n => decide (t + n ≤ 1048576)) p1 := ⟨_, rfl⟩
    have hq1 : q.1 = (sCount 1048576 2 p1).1 := by rw [hq]; rfl
    have hqb : isB q.2.1 := by rw [hq]; exact fun x hx => hpb x ((cntC_suf _ _ _ _ _).subset hx)
    have hq3 : q.2.2 = 0 → t + q.1 ≤ 1048576 := by
      rw [hq]; intro h0; unfold cntC at h0 ⊢; dsimp only at h0 ⊢
      split at h0
      · rename_i hg; exact of_decide_eq_true hg
      · exact absurd h0 (sFail_ne (by decide))
    have hblk : sBlk vregs regs slots t p1 = sPrs vregs regs slots q.1 q.2 := by rw [hq]; rfl
    refine ⟨Nat.le_of_ble_eq_true rfl, ?_⟩
    repeat' ((fail_if_success with_reducible refine Stop.mk ?_); (conv => whnf); with_reducible first | refine br_t ?_ | refine br_f ?_ | refine br_nn ?_ | refine br_ns ?_ | refine br_not ?_ | refine br_d (fun h => ?_) (fun h => ?_) | refine br_e (fun h => ?_) (fun h => ?_) | refine br_n (fun h => ?_) (fun h => ?_) | refine drw (by kernel_rfl) ?_ | refine chk (by kernel_rfl) ?_ | refine stop ?_)
    all_goals refine Stop.mk ?_
    all_goals rw [hw3] at h ⊢
    all_goals try
      refine call_fn [] (r18Fail_fn 6 hR2 (by decide)) rfl trivial (by decide) ?_
      rintro sv H' G' ⟨Bq, dq, rq, rfl, hR3, rfl, rfl⟩ -
      have hRq : RIn G' Bq dq q.2 rq := by
        have hq2 : q.2 = sFail 6 (sCount 1048576 2 p1).2 := by rw [hq]; unfold cntC; rw [if_neg (by simp only [decide_eq_true_eq]; omega)]
        rw [hq2]; exact hR3
      clear hR3 hR2
      refine ⟨Nat.le_of_ble_eq_true rfl, ?_⟩
      repeat' ((fail_if_success with_reducible refine Stop.mk ?_); (conv => whnf); with_reducible first | refine br_t ?_ | refine br_f ?_ | refine br_nn ?_ | refine br_ns ?_ | refine br_not ?_ | refine br_d (fun h => ?_) (fun h => ?_) | refine br_e (fun h => ?_) (fun h => ?_) | refine br_n (fun h => ?_) (fun h => ?_) | refine drw (by kernel_rfl) ?_ | refine chk (by kernel_rfl) ?_ | refine stop ?_)
      all_goals refine Stop.mk ?_
    all_goals try
      have hRq : RIn G' Bq dq q.2 rq := by
        have hq2 : q.2 = (sCount 1048576 2 p1).2 := by rw [hq]; unfold cntC; rw [if_pos (by simp only [decide_eq_true_eq]; omega)]
        rw [hq2]; exact hR2
      clear hR2
    all_goals
      clear hw3 h
      rw [← hq1] at hcr ⊢
      clear hq1 hq
    all_goals
      have hkk0 : k < blocks.toNat := by omega
      refine loop_opq fun K0 hK0 => ?_
      refine loop_gh (gh_birth 16 127 2 rfl) ?_
      rintro _ _ ⟨rfl, rfl⟩
      refine loop_vars follows [(20, (.cons 0 [] (.cons 1 [] (.cons 2 [0] .nil)))), (21, (.cons 0 [] (.cons 1 [] (.cons 2 [] (.cons 3 [1] .nil)))))] (α := Nat × Pr × Ps × List Pr × List Value × Option Addr × Nat × Ps) (fun x => [(16, .s 4), (18, .v (.int .i64 x.1))])
        (fun x => [inOw x.2.2.2.2.2.1 x.2.2.2.2.2.2.1 x.2.2.2.2.2.2.2, inOw none 0 ([], 0), .row 51 1 k vals, prO x.2.1, .row 127 2 x.1 x.2.2.2.2.1]) (fun x => G')
        (fun x => x.1 ≤ q.1.toNat ∧ RIn G' x.2.2.2.2.2.1 x.2.2.2.2.2.2.1 x.2.2.1 x.2.2.2.2.2.2.2 ∧ isB x.2.2.1.1 ∧ x.2.2.2.1.length = x.1 ∧ kPr.Cs G' x.2.2.2.1 x.2.2.2.2.1 ∧ (∃ acc, Run (sPr vregs regs slots) nxP q.1.toNat ps0 q.2 x.1 (((x.1 : Int) == 0), x.2.1) x.2.2.1 acc ∧ (x.2.2.1.2 = 0 → acc = x.2.2.2.1)) ∧ (x.2.2.1.2 = 0 → goodS vregs (((x.1 : Int) == 0), x.2.1) ∧ x.2.1.l ≤ 3000000000))
        (fun x => q.1.toNat - x.1) (0, pr0, q.2, [], [], Bq, dq, rq)
        ⟨Nat.zero_le _, hRq, hqb, rfl, Kd.Cs.nil _ _, ⟨[], Run.start _ _ _, fun _ => rfl⟩, fun _ => ⟨ps0_good hv.1, ps0_l⟩⟩ rfl rfl ?_ ?_
      ·
        refine ⟨?_⟩
        (conv => whnf)
        (repeat' (first | exact trivial | exact .inl rfl | exact .inr rfl | refine And.intro ?_ ?_))
      clear hR hRq hpb hqb
      rintro ⟨k2, q2, p2, ps, vals2, B4, d4, r4⟩ ⟨hk2, hR, hpb, hpl, hvals2, ⟨acc2, hrun2, hacc2⟩, hgd⟩
      dsimp only at hk2 hR hpb hpl hvals2 hrun2 hacc2 hgd ⊢
      have hw4 : IntKind.i64.wrap ((k2 : Int) + 1) = ((k2 + 1 : Nat) : Int) := by rw [i64_in (by omega) (by omega)]; simp
      have he4 := hR.he
      have hexit2 : ∀ (hd : q.1.toNat ≤ k2 ∨ p2.2 ≠ 0), sBlk vregs regs slots t p1 = (acc2, p2) := fun hd => by rw [hblk]; exact hrun2.done hd
      have hnx : sBlk vregs regs slots t p1 = (acc2, p2) → p2.2 = 0 → t + q.1 = nxT t acc2 ∧ (0 ≤ t + q.1 ∧ t + q.1 ≤ 1048576) := by
        intro h1 h0
        rw [hblk] at h1
        have h2 := rep_full (f := sPr vregs regs slots) (nx := nxP) q.1.toNat ps0 q.2
        rw [show rep (sPr vregs regs slots) nxP q.1.toNat ps0 q.2 = (acc2, p2) from h1] at h2
        have h3 := h2 h0
        dsimp only at h3
        have h4 : q.2.2 = 0 := by
          rcases Decidable.em (q.2.2 = 0) with h5 | h5
          · exact h5
          · have := sPrs_st (vregs := vregs) (regs := regs) (slots := slots) (n := q.1) h5
            rw [h1] at this
            rw [← this]; exact h0
        have := hq3 h4
        unfold nxT
        omega
      repeat' ((fail_if_success with_reducible refine Stop.mk ?_); (conv => whnf); with_reducible first | refine br_t ?_ | refine br_f ?_ | refine br_nn ?_ | refine br_ns ?_ | refine br_not ?_ | refine br_d (fun h => ?_) (fun h => ?_) | refine br_e (fun h => ?_) (fun h => ?_) | refine br_n (fun h => ?_) (fun h => ?_) | refine drw (by kernel_rfl) ?_ | refine chk (by kernel_rfl) ?_ | refine stop ?_)
      all_goals refine Stop.mk ?_
      · have hp20 : p2.2 = 0 := by rw [← he4]; assumption
        have hkk : k2 < q.1.toNat := by omega
        obtain ⟨hg1, hg2⟩ := hgd hp20
        have hrg := sPr_rng (regs := regs) (slots := slots) hpb hv.2 hr hs hg1 (by dsimp only; omega)
        have hnext := hrun2.next hkk hp20 (x := (sPr vregs regs slots (((k2 : Int) == 0), q2) p2).1) (p' := (sPr vregs regs slots (((k2 : Int) == 0), q2) p2).2) rfl
        have hsuf := sPr_suf vregs regs slots (((k2 : Int) == 0), q2) p2
        refine call_fn [] (rpair_fn ((k2 : Int) == 0) q2 vregs regs slots hR hpb hv.2 hr hs hg1 hg2) rfl trivial (by decide) ?_
        rintro sv H' G' ⟨x, B5, d5, r5, rfl, hR5, hx64, hxe, rfl, rfl⟩ -
        refine ⟨Nat.le_of_ble_eq_true rfl, ?_⟩
        generalize sPr vregs regs slots (((k2 : Int) == 0), q2) p2 = xp at *
        obtain ⟨y, p3⟩ := xp
        dsimp only at hrg hnext hsuf hR5 hxe
        have hpb3 : isB p3.1 := fun z hz => hpb z (hsuf.subset hz)
        have hk0 : (((k2 + 1 : Nat) : Int) == 0) = false := by simp; omega
        repeat' ((fail_if_success with_reducible refine Stop.mk ?_); (conv => whnf); with_reducible first | refine br_t ?_ | refine br_f ?_ | refine br_nn ?_ | refine br_ns ?_ | refine br_not ?_ | refine br_d (fun h => ?_) (fun h => ?_) | refine br_e (fun h => ?_) (fun h => ?_) | refine br_n (fun h => ?_) (fun h => ?_) | refine drw (by kernel_rfl) ?_ | refine chk (by kernel_rfl) ?_ | refine stop ?_)
        all_goals refine Stop.mk ?_
        refine ⟨by simp [Value.oneCell'], ⟨by show (k2 + 1) * 16 ≤ _; omega, ?_⟩⟩
        repeat' ((fail_if_success with_reducible refine Stop.mk ?_); (conv => whnf); with_reducible first | refine br_t ?_ | refine br_f ?_ | refine br_nn ?_ | refine br_ns ?_ | refine br_not ?_ | refine br_d (fun h => ?_) (fun h => ?_) | refine br_e (fun h => ?_) (fun h => ?_) | refine br_n (fun h => ?_) (fun h => ?_) | refine drw (by kernel_rfl) ?_ | refine chk (by kernel_rfl) ?_ | refine stop ?_)
        all_goals refine Stop.mk ?_
        rw [hw4]
        refine tell_gc hE [0, 1, 2, 3, 4] rfl rfl ?_
        (conv => whnf)
        refine tell_here ⟨(k2 + 1, x, p3, ps ++ [x], vals2 ++ prv x, B5, d5, r5), ⟨by show k2 + 1 ≤ _; omega, hR5, hpb3, by simp [hpl], ?_, ⟨acc2 ++ [y], ?_, ?_⟩, ?_⟩, by show q.1.toNat - (k2 + 1) < q.1.toNat - k2; omega, rfl, rfl, ?_⟩
        · exact hvals2.snoc ⟨rfl, hx64⟩
        · refine hnext _ (fun h0 => ?_)
          rw [hk0, hxe h0]
          rfl
        · intro h0
          dsimp only at h0 ⊢
          rw [hacc2 hp20, hxe h0]
        · intro h0
          dsimp only at h0 ⊢
          have h7 := (hrg.2 h0).1
          rw [hk0, hxe h0]
          exact h7
        ·
          refine ⟨?_⟩
          (conv => whnf)
          (repeat' (first | exact trivial | exact .inl rfl | exact .inr rfl | refine And.intro ?_ ?_))
      all_goals
        have he2 := hexit2 (by first | exact .inr (by rw [← he4]; assumption) | exact .inl (by omega))
        refine Stop.mk (hK0 _ _ ?_)
        clear hK0
        repeat' ((fail_if_success with_reducible refine Stop.mk ?_); (conv => whnf); with_reducible first | refine br_t ?_ | refine br_f ?_ | refine br_nn ?_ | refine br_ns ?_ | refine br_not ?_ | refine br_d (fun h => ?_) (fun h => ?_) | refine br_e (fun h => ?_) (fun h => ?_) | refine br_n (fun h => ?_) (fun h => ?_) | refine drw (by kernel_rfl) ?_ | refine chk (by kernel_rfl) ?_ | refine stop ?_)
        all_goals refine Stop.mk ?_
        refine ⟨hvals2.ones, fun A2 c2 G2 hg2 hs2 => ⟨by show (k + 1) * 24 ≤ _; omega, ?_⟩⟩
        replace hR := hR.to hg2
        replace hvals := hvals.to hg2
        replace hvals2 := hvals2.to hg2
        clear hg2
        repeat' ((fail_if_success with_reducible refine Stop.mk ?_); (conv => whnf); with_reducible first | refine br_t ?_ | refine br_f ?_ | refine br_nn ?_ | refine br_ns ?_ | refine br_not ?_ | refine br_d (fun h => ?_) (fun h => ?_) | refine br_e (fun h => ?_) (fun h => ?_) | refine br_n (fun h => ?_) (fun h => ?_) | refine drw (by kernel_rfl) ?_ | refine chk (by kernel_rfl) ?_ | refine stop ?_)
        all_goals refine Stop.mk ?_
        rw [hw2]
        refine tell_gc hE [0, 1, 2] rfl rfl ?_
        (conv => whnf)
        refine tell_here ⟨(k + 1, t + q.1, p2, os ++ [ps], vals ++ [.slice A2 k2 c2], G2, B4, d4, r4), ⟨by show k + 1 ≤ _; omega, hR, hpb, by simp [hol], ?_, ⟨acc ++ [acc2], ?_, ?_⟩, ?_⟩, by show blocks.toNat - (k + 1) < blocks.toNat - k; omega, rfl, rfl, ?_⟩
        · exact hvals.snoc ⟨A2, c2, by rw [hpl], Kd.S.of hs2 hpl.symm rfl hvals2⟩
        · exact hrun.next hkk0 hp0 he2 _ (fun h0 => (hnx he2 h0).1)
        · intro h0
          dsimp only at h0 ⊢
          rw [hacc hp0, hacc2 h0]
        · intro h0; exact (hnx he2 h0).2
        ·
          refine ⟨?_⟩
          (conv => whnf)
          (repeat' (first | exact trivial | exact .inl rfl | exact .inr rfl | refine And.intro ?_ ?_))
  all_goals
    have he := hexit (by first | exact .inr (by rw [← he1]; assumption) | exact .inl (by omega))
    first
      | (have h0 : p1.2 ≠ 0 := by rw [← he1]; assumption
         refine fin_id hE 0 rfl rfl rfl rfl ?_
         rw [he]; dsimp only; rw [if_neg h0]
         exact ⟨_, A1, c1, r1, rfl, ⟨none, 0, rfl, Kd.S.none_ _ _⟩, hR, rfl⟩)
      | (have h0 : p1.2 = 0 := by rw [← he1]; assumption
         refine fin_done 2 rfl hvals.ones fun A2 c2 G2 hg hs => fin_id hE 0 rfl rfl rfl rfl ?_
         rw [he]; dsimp only; rw [if_pos h0, hacc h0]
         exact ⟨_, A1, c1, r1, rfl, ⟨A2, c2, by rw [hol]; rfl, Kd.S.of hs hol.symm rfl (hvals.to hg)⟩, hR.to hg, rfl⟩)
end Go.Proofs.Ytkhajngpcgmpnaa.Cu
