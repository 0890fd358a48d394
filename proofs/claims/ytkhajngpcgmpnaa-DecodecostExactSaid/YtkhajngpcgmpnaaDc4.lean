/- The cost of decoding: the blocks of a function of a machine. -/
import Derived.Test.YtkhajngpcgmpnaaDc3
import Derived.Test.YtkhajngpcgmpnaaFu6
namespace Go.Proofs.Ytkhajngpcgmpnaa.Cu
open Go Go.SX Go.Proofs.Ytkhajngpcgmpnaa.VT
set_option maxRecDepth 100000
set_option linter.unusedVariables false
set_option linter.unusedSimpArgs false

theorem nxR_18 {run : Int} {i : Mac} (h : i.op = 18) (_ : 0 ≤ run ∧ run ≤ 2000000) : nxR run i = run + 1 := if_pos h
theorem nxR_n18 {run : Int} {i : Mac} (h : i.op ≠ 18) (_ : 0 ≤ run ∧ run ≤ 2000000) : nxR run i = 0 := if_neg h
set_option maxHeartbeats 8000000 in
theorem machine1_fn {G : Gh} {A : Option Addr} {bs : List Int} {c : Nat} {p : Ps} (b : Bool) (s : Shp) (w rr : Int) (hC : CurOK G A c bs p) (hs : okShp s) (hw : rr = if b = true then 0 else w) (hr : 0 ≤ rr ∧ rr ≤ 2000000) :
    Ct Try.prog 52 [.v (.bool b), .p 3 0, .p 1 0, .p 2 0] [curL A bs c p, ccO, shO s, runO w] G fun sv H' G' => sv = .tup [] ∧ H' = [curL A bs c (sMacR s.regs s.slots rr p).2, ccO, shO s, runO (nxR rr (sMacR s.regs s.slots rr p).1)] ∧ G' = G := by
  have hs2 := hs.2.1
  have hwr : IntKind.i64.wrap (rr + 1) = rr + 1 := i64_in (by omega) (by omega)
  have e1 : (sMacR s.regs s.slots rr p).1 = (sMac s.regs s.slots p).1 := rfl
  have e2 : (sMacR s.regs s.slots rr p).2 = if nxR rr (sMac s.regs s.slots p).1 > 64 then sFail 15 (sMac s.regs s.slots p).2 else (sMac s.regs s.slots p).2 := rfl
  rw [e1, e2]
  clear e1 e2
  refine fn_of follows [] Try.func52 rfl rfl fun E hE => ?_
  unfold ccO shO runO
  repeat' ((fail_if_success with_reducible refine Stop.mk ?_); (conv => whnf); with_reducible first | refine br_t ?_ | refine br_f ?_ | refine br_nn ?_ | refine br_ns ?_ | refine br_not ?_ | refine br_d (fun h => ?_) (fun h => ?_) | refine br_e (fun h => ?_) (fun h => ?_) | refine br_n (fun h => ?_) (fun h => ?_) | refine br_b (fun h => ?_) (fun h => ?_) | refine drw (by kernel_rfl) ?_ | refine chk (by kernel_rfl) ?_ | refine stop ?_)
  all_goals refine Stop.mk ?_
  all_goals
    first
      | (have hb : b = true := by assumption
         rw [if_pos hb] at hw
         subst hw)
      | (have hb : b = false := by assumption
         rw [if_neg (by rw [hb]; decide)] at hw
         subst hw)
    rw [hwr]
    refine call_fn [0] (mach_fn s.regs s.slots hC (by omega)) rfl ⟨rfl, trivial⟩ (by decide) ?_
    rintro sv H' G' ⟨rfl, rfl, rfl⟩ -
    refine ⟨Nat.le_of_ble_eq_true rfl, ?_⟩
    generalize sMac s.regs s.slots p = x at *
    obtain ⟨i, p1⟩ := x
    dsimp only
    repeat' ((fail_if_success with_reducible refine Stop.mk ?_); (conv => whnf); with_reducible first | refine br_t ?_ | refine br_f ?_ | refine br_nn ?_ | refine br_ns ?_ | refine br_not ?_ | refine br_d (fun h => ?_) (fun h => ?_) | refine br_e (fun h => ?_) (fun h => ?_) | refine br_n (fun h => ?_) (fun h => ?_) | refine drw (by kernel_rfl) ?_ | refine chk (by kernel_rfl) ?_ | refine stop ?_)
    all_goals refine Stop.mk ?_
  all_goals try
    refine call_fn [0] (pfail_fn 15 (p := p1)) rfl ⟨rfl, trivial⟩ (by decide) ?_
    rintro sv H' G' ⟨rfl, rfl, rfl⟩ -
    refine ⟨Nat.le_of_ble_eq_true rfl, ?_⟩
    repeat' ((fail_if_success with_reducible refine Stop.mk ?_); (conv => whnf); with_reducible first | refine br_t ?_ | refine br_f ?_ | refine br_nn ?_ | refine br_ns ?_ | refine br_not ?_ | refine br_d (fun h => ?_) (fun h => ?_) | refine br_e (fun h => ?_) (fun h => ?_) | refine br_n (fun h => ?_) (fun h => ?_) | refine drw (by kernel_rfl) ?_ | refine chk (by kernel_rfl) ?_ | refine stop ?_)
    all_goals refine Stop.mk ?_
  all_goals
    first
      | (exfalso; omega)
      | (have h18 : i.op = 18 := by assumption
         have e := nxR_18 h18 hr
         refine fin_id hE 4 rfl rfl rfl rfl ⟨rfl, ?_, rfl⟩
         rw [e]
         first
           | rw [if_pos h]
           | rw [if_neg h]
         rfl)
      | (have h18 : i.op ≠ 18 := by assumption
         have e := nxR_n18 h18 hr
         refine fin_id hE 4 rfl rfl rfl rfl ⟨rfl, ?_, rfl⟩
         rw [e]
         first
           | rw [if_pos h]
           | rw [if_neg h]
         rfl)
set_option maxHeartbeats 8000000 in
theorem dmblocks_fn {G : Gh} {A : Option Addr} {bs : List Int} {c : Nat} {p : Ps} (x : Cst) (s : Shp) (w0 : Int) (hC : CurOK G A c bs p) (hs : okShp s) (hx : okCst x 100000000) :
    Ct Try.prog 49 [.p 0 0, .p 1 0, .p 2 0, .f (.func 52) [] [.p 4 0, .p 3 0, .p 2 0]] [xO x, curL A bs c p, shO s, cc1, runO w0] G fun sv H' G' =>
      sv = .tup [] ∧ ∃ w1, H' = [xO ⟨x.blocks + (cntB p).1, x.instrs + sumI (dMBlks s.regs s.slots (cntB p).1 (cntB p).2).1, x.pairs, x.bytes⟩, curL A bs c (dMBlks s.regs s.slots (cntB p).1 (cntB p).2).2, shO ⟨s.args, s.regs, s.slots, (cntB p).1⟩, cc1, runO w1] ∧ G' = G := by
  have hcr := sCount_range (most := 1048576) (size := 3) hC.isb (by decide)
  have hs2 := hs.2.1
  obtain ⟨hx1, hx2, hx3, hx4⟩ := hx
  obtain ⟨q, hq⟩ : ∃ q, q = cntB p := ⟨_, rfl⟩
  have hq1 : q.1 = (sCount 1048576 3 p).1 := by rw [hq]; rfl
  have hCq : CurOK G A c bs q.2 := hq ▸ hC.next (cntC_suf _ _ _ _ _)
  have hqz : q.1 ≠ 0 → q.2.2 = 0 := by rw [hq]; exact cntB_nz
  rw [← hq]
  have hw1 : IntKind.i64.wrap (x.blocks + (sCount 1048576 3 p).1) = x.blocks + (sCount 1048576 3 p).1 := i64_in (by omega) (by omega)
  refine fn_of follows [(1, (.cons 0 [] (.cons 1 [] (.cons 2 [] (.cons 3 [] (.cons 4 [] (.cons 5 [] (.cons 6 [] (.cons 7 [] (.cons 8 [] (.cons 9 [] (.cons 10 [] (.cons 11 [] (.cons 12 [] (.cons 13 [4, 8] .nil))))))))))))))), (16, (.cons 0 [] (.cons 1 [] (.cons 2 [] (.cons 3 [] (.cons 4 [] (.cons 5 [] (.cons 6 [] (.cons 7 [] (.cons 8 [] (.cons 9 [4, 8] .nil)))))))))))] Try.func49 rfl rfl fun E hE => ?_
  unfold xO shO cc1 runO
  repeat' ((fail_if_success with_reducible refine Stop.mk ?_); (conv => whnf); with_reducible first | refine br_t ?_ | refine br_f ?_ | refine br_nn ?_ | refine br_ns ?_ | refine br_not ?_ | refine br_d (fun h => ?_) (fun h => ?_) | refine br_e (fun h => ?_) (fun h => ?_) | refine br_n (fun h => ?_) (fun h => ?_) | refine drw (by kernel_rfl) ?_ | refine chk (by kernel_rfl) ?_ | refine stop ?_)
  all_goals refine Stop.mk ?_
  refine call_fn [1] (pcount_fn 1048576 3 hC (by decide) (by decide)) rfl ⟨rfl, trivial⟩ (by decide) ?_
  rintro sv H' G' ⟨rfl, rfl, rfl⟩ -
  refine ⟨Nat.le_of_ble_eq_true rfl, ?_⟩
  repeat' ((fail_if_success with_reducible refine Stop.mk ?_); (conv => whnf); with_reducible first | refine br_t ?_ | refine br_f ?_ | refine br_nn ?_ | refine br_ns ?_ | refine br_not ?_ | refine br_d (fun h => ?_) (fun h => ?_) | refine br_e (fun h => ?_) (fun h => ?_) | refine br_n (fun h => ?_) (fun h => ?_) | refine drw (by kernel_rfl) ?_ | refine chk (by kernel_rfl) ?_ | refine stop ?_)
  all_goals refine Stop.mk ?_
  all_goals rw [hw1]
  ·
    refine call_fn [1] (pfail_fn 14 (p := (sCount 1048576 3 p).2)) rfl ⟨rfl, trivial⟩ (by decide) ?_
    rintro sv H' G' ⟨rfl, rfl, rfl⟩ -
    refine ⟨Nat.le_of_ble_eq_true rfl, ?_⟩
    have hq2 : sFail 14 (sCount 1048576 3 p).2 = q.2 := by rw [hq]; unfold cntB cntC; rw [if_neg (by simp only [decide_eq_true_eq]; omega)]
    rw [hq2]
    have hq0 : q.1 = 0 := by rw [hq1]; assumption
    clear hw1 hqz hq
    rw [← hq1]
    rw [hq0]
    repeat' ((fail_if_success with_reducible refine Stop.mk ?_); (conv => whnf); with_reducible first | refine br_t ?_ | refine br_f ?_ | refine br_nn ?_ | refine br_ns ?_ | refine br_not ?_ | refine br_d (fun h => ?_) (fun h => ?_) | refine br_e (fun h => ?_) (fun h => ?_) | refine br_n (fun h => ?_) (fun h => ?_) | refine drw (by kernel_rfl) ?_ | refine chk (by kernel_rfl) ?_ | refine stop ?_)
    all_goals refine Stop.mk ?_
    refine loop_unroll follows [(1, (.cons 0 [] (.cons 1 [] (.cons 2 [] (.cons 3 [] (.cons 4 [] (.cons 5 [] (.cons 6 [] (.cons 7 [] (.cons 8 [] (.cons 9 [] (.cons 10 [] (.cons 11 [] (.cons 12 [] (.cons 13 [4, 8] .nil))))))))))))))), (16, (.cons 0 [] (.cons 1 [] (.cons 2 [] (.cons 3 [] (.cons 4 [] (.cons 5 [] (.cons 6 [] (.cons 7 [] (.cons 8 [] (.cons 9 [4, 8] .nil)))))))))))] 1 ?_
    repeat' ((fail_if_success with_reducible refine Stop.mk ?_); (conv => whnf); first | with_reducible refine br_t ?_ | with_reducible refine br_f ?_ | with_reducible refine br_nn ?_ | with_reducible refine br_ns ?_ | with_reducible refine br_not ?_ | ((with_reducible refine br_d (fun h => ?_) (fun h => ?_)) <;> try (exfalso; omega)) | ((with_reducible refine br_e (fun h => ?_) (fun h => ?_)) <;> try (exfalso; omega)) | ((with_reducible refine br_n (fun h => ?_) (fun h => ?_)) <;> try (exfalso; omega)) | with_reducible refine drw (by kernel_rfl) ?_ | with_reducible refine chk (by kernel_rfl) ?_ | with_reducible refine stop ?_)
    all_goals refine Stop.mk ?_
    have hz : dMBlks s.regs s.slots 0 q.2 = ([], q.2) := rfl
    refine fin_id hE 5 rfl rfl rfl rfl ⟨rfl, w0, ?_, rfl⟩
    rw [hz, show x.instrs + sumI [] = x.instrs from Int.add_zero _]
    rfl
  · have hq2 : (sCount 1048576 3 p).2 = q.2 := by rw [hq]; unfold cntB cntC; rw [if_pos (by simp only [decide_eq_true_eq]; omega)]
    rw [hq2]
    clear hq2 h hw1
    rw [← hq1] at hcr ⊢
    clear hq1 hq hC
    have hpost : dMBlks s.regs s.slots q.1 q.2 = rep (sMBlkN s.regs s.slots q.1) addN q.1.toNat 0 q.2 := rfl
    refine loop_vars follows [(1, (.cons 0 [] (.cons 1 [] (.cons 2 [] (.cons 3 [] (.cons 4 [] (.cons 5 [] (.cons 6 [] (.cons 7 [] (.cons 8 [] (.cons 9 [] (.cons 10 [] (.cons 11 [] (.cons 12 [] (.cons 13 [4, 8] .nil))))))))))))))), (16, (.cons 0 [] (.cons 1 [] (.cons 2 [] (.cons 3 [] (.cons 4 [] (.cons 5 [] (.cons 6 [] (.cons 7 [] (.cons 8 [] (.cons 9 [4, 8] .nil)))))))))))] (α := Nat × Int × Ps × List Int × Int) (fun y => [(8, .v (.int .i64 y.2.1)), (40, .v (.int .i64 y.1))])
      (fun y => [.cells 58 [.v (.int .i64 (x.blocks + q.1)), .v (.int .i64 (x.instrs + sumI y.2.2.2.1)), .v (.int .i64 x.pairs), .v (.int .i64 x.bytes)], curL A bs c y.2.2.1, .cells 67 [.v (.int .i64 s.args), .v (.int .i64 s.regs), .v (.int .i64 s.slots), .v (.int .i64 q.1)], .cells 64 [.p 1 0], .cells 3 [.v (.int .i64 y.2.2.2.2)]]) (fun y => G')
      (fun y => y.1 ≤ q.1.toNat ∧ CurOK G' A c bs y.2.2.1 ∧ Run (sMBlkN s.regs s.slots q.1) addN q.1.toNat 0 q.2 y.1 y.2.1 y.2.2.1 y.2.2.2.1 ∧ (y.1 < q.1.toNat → y.2.2.1.2 = 0) ∧ (y.2.2.1.2 = 0 → (0 ≤ y.2.1 ∧ y.2.1 ≤ 1048576) ∧ sumI y.2.2.2.1 = y.2.1))
      (fun y => q.1.toNat - y.1) (0, 0, q.2, [], w0)
      ⟨Nat.zero_le _, hCq, Run.start _ _ _, fun h => hqz (by show q.1 ≠ 0; intro h0; rw [h0] at h; exact absurd h (Nat.lt_irrefl _)), fun _ => ⟨⟨Int.le_refl _, by dsimp only; decide⟩, rfl⟩⟩ (by show [_, _, _, _, _] = [_, _, _, _, _]; rw [show x.instrs + sumI [] = x.instrs from Int.add_zero _]; rfl) rfl ?_ ?_
    ·
      refine ⟨?_⟩
      (conv => whnf)
      (repeat' (first | exact trivial | exact .inl rfl | exact .inr rfl | refine And.intro ?_ ?_))
    clear hCq
    rintro ⟨k, t, p1, acc, w⟩ ⟨hk, hC, hrun, hz, ht⟩
    dsimp only at hk hC hrun hz ht ⊢
    have hw2 : IntKind.i64.wrap ((k : Int) + 1) = ((k + 1 : Nat) : Int) := by rw [i64_in (by omega) (by omega)]; simp
    repeat' ((fail_if_success with_reducible refine Stop.mk ?_); (conv => whnf); with_reducible first | refine br_t ?_ | refine br_f ?_ | refine br_nn ?_ | refine br_ns ?_ | refine br_not ?_ | refine br_d (fun h => ?_) (fun h => ?_) | refine br_e (fun h => ?_) (fun h => ?_) | refine br_n (fun h => ?_) (fun h => ?_) | refine drw (by kernel_rfl) ?_ | refine chk (by kernel_rfl) ?_ | refine stop ?_)
    all_goals refine Stop.mk ?_
    · have hkk : k < q.1.toNat := by omega
      have hp0 := hz hkk
      obtain ⟨⟨ht1, ht2⟩, hsum⟩ := ht hp0
      have hcr2 := sCount_range (most := 1048576) (size := 2) hC.isb (by decide)
      refine call_fn [1] (pcount_fn 1048576 2 hC (by decide) (by decide)) rfl ⟨rfl, trivial⟩ (by decide) ?_
      rintro sv H' G' ⟨rfl, rfl, rfl⟩ -
      refine ⟨Nat.le_of_ble_eq_true rfl, ?_⟩
      have hw3 : IntKind.i64.wrap (t + (sCount 1048576 2 p1).1) = t + (sCount 1048576 2 p1).1 := i64_in (by omega) (by omega)
      have hw4 : IntKind.i64.wrap (x.instrs + sumI acc + (sCount 1048576 2 p1).1) = x.instrs + sumI acc + (sCount 1048576 2 p1).1 := i64_in (by omega) (by omega)
      obtain ⟨u, hu⟩ : ∃ u, u = cntI t p1 := ⟨_, rfl⟩
      have hu1 : u.1 = (sCount 1048576 2 p1).1 := by rw [hu]; rfl
      have hCu := hC.next (q := u.2) (by rw [hu]; exact cntC_suf _ _ _ _ _)
      have hu3 : u.2.2 = 0 → t + u.1 ≤ 1048576 := by rw [hu]; exact cntI_le
      have hblk : sMBlkN s.regs s.slots q.1 t p1 = (u.1, (sTrm s.regs q.1 (sMCode s.regs s.slots u.1 u.2).2).2) := by rw [hu]; rfl
      have hnext := hrun.next hkk hp0 hblk (t + u.1) (fun _ => rfl)
      repeat' ((fail_if_success with_reducible refine Stop.mk ?_); (conv => whnf); with_reducible first | refine br_t ?_ | refine br_f ?_ | refine br_nn ?_ | refine br_ns ?_ | refine br_not ?_ | refine br_d (fun h => ?_) (fun h => ?_) | refine br_e (fun h => ?_) (fun h => ?_) | refine br_n (fun h => ?_) (fun h => ?_) | refine drw (by kernel_rfl) ?_ | refine chk (by kernel_rfl) ?_ | refine stop ?_)
      all_goals refine Stop.mk ?_
      all_goals rw [hw3] at h ⊢
      all_goals try
        refine call_fn [1] (pfail_fn 6 (p := (sCount 1048576 2 p1).2)) rfl ⟨rfl, trivial⟩ (by decide) ?_
        rintro sv H' G' ⟨rfl, rfl, rfl⟩ -
        refine ⟨Nat.le_of_ble_eq_true rfl, ?_⟩
        have hu2 : sFail 6 (sCount 1048576 2 p1).2 = u.2 := by rw [hu]; unfold cntI cntC; rw [if_neg (by simp only [decide_eq_true_eq]; omega)]
        rw [hu2]
        repeat' ((fail_if_success with_reducible refine Stop.mk ?_); (conv => whnf); with_reducible first | refine br_t ?_ | refine br_f ?_ | refine br_nn ?_ | refine br_ns ?_ | refine br_not ?_ | refine br_d (fun h => ?_) (fun h => ?_) | refine br_e (fun h => ?_) (fun h => ?_) | refine br_n (fun h => ?_) (fun h => ?_) | refine drw (by kernel_rfl) ?_ | refine chk (by kernel_rfl) ?_ | refine stop ?_)
        all_goals refine Stop.mk ?_
      all_goals try
        have hu2 : (sCount 1048576 2 p1).2 = u.2 := by rw [hu]; unfold cntI cntC; rw [if_pos (by simp only [decide_eq_true_eq]; omega)]
        rw [hu2]
      all_goals
        clear hu2 hw3 h
        rw [hw4]
        clear hw4
        rw [← hu1] at hcr2 ⊢
        clear hu1 hu
        refine loop_opq fun K0 hK0 => ?_
        refine loop_vars follows [(1, (.cons 0 [] (.cons 1 [] (.cons 2 [] (.cons 3 [] (.cons 4 [] (.cons 5 [] (.cons 6 [] (.cons 7 [] (.cons 8 [] (.cons 9 [] (.cons 10 [] (.cons 11 [] (.cons 12 [] (.cons 13 [4, 8] .nil))))))))))))))), (16, (.cons 0 [] (.cons 1 [] (.cons 2 [] (.cons 3 [] (.cons 4 [] (.cons 5 [] (.cons 6 [] (.cons 7 [] (.cons 8 [] (.cons 9 [4, 8] .nil)))))))))))] (α := Nat × Ps × List Mac × Int × Int) (fun y => [(10, .v (.int .i64 y.1))])
          (fun y => [.cells 58 [.v (.int .i64 (x.blocks + q.1)), .v (.int .i64 (x.instrs + sumI acc + u.1)), .v (.int .i64 x.pairs), .v (.int .i64 x.bytes)], curL A bs c y.2.1, .cells 67 [.v (.int .i64 s.args), .v (.int .i64 s.regs), .v (.int .i64 s.slots), .v (.int .i64 q.1)], .cells 64 [.p 1 0], .cells 3 [.v (.int .i64 y.2.2.2.2)]]) (fun y => G')
          (fun y => y.1 ≤ u.1.toNat ∧ CurOK G' A c bs y.2.1 ∧ Run (sMacR s.regs s.slots) nxR u.1.toNat 0 u.2 y.1 y.2.2.2.1 y.2.1 y.2.2.1 ∧ (y.2.2.2.1 = if decide ((y.1 : Int) = 0) = true then 0 else y.2.2.2.2) ∧ 0 ≤ y.2.2.2.1 ∧ y.2.2.2.1 ≤ y.1)
          (fun y => u.1.toNat - y.1) (0, u.2, [], 0, w)
          ⟨Nat.zero_le _, hCu, Run.start _ _ _, rfl, Int.le_refl _, Int.le_refl _⟩ rfl rfl ?_ ?_
        ·
          refine ⟨?_⟩
          (conv => whnf)
          (repeat' (first | exact trivial | exact .inl rfl | exact .inr rfl | refine And.intro ?_ ?_))
        clear hC hCu
        rintro ⟨j, p2, cs, rs, w2⟩ ⟨hj, hC, hrun2, hrs, hr0, hr1⟩
        dsimp only at hj hC hrun2 hrs hr0 hr1 ⊢
        have hw5 : IntKind.i64.wrap ((j : Int) + 1) = ((j + 1 : Nat) : Int) := by rw [i64_in (by omega) (by omega)]; simp
        have hexit2 : ∀ (hd : u.1.toNat ≤ j ∨ p2.2 ≠ 0), sMCode s.regs s.slots u.1 u.2 = (cs, p2) := fun hd => hrun2.done hd
        repeat' ((fail_if_success with_reducible refine Stop.mk ?_); (conv => whnf); with_reducible first | refine br_t ?_ | refine br_f ?_ | refine br_nn ?_ | refine br_ns ?_ | refine br_not ?_ | refine br_d (fun h => ?_) (fun h => ?_) | refine br_e (fun h => ?_) (fun h => ?_) | refine br_n (fun h => ?_) (fun h => ?_) | refine drw (by kernel_rfl) ?_ | refine chk (by kernel_rfl) ?_ | refine stop ?_)
        all_goals refine Stop.mk ?_
        ·
          refine call_fn [1] (perr_fn (p := p2)) rfl ⟨rfl, trivial⟩ (by decide) ?_
          rintro sv H' G' ⟨rfl, rfl, rfl⟩ -
          refine ⟨Nat.le_of_ble_eq_true rfl, ?_⟩
          repeat' ((fail_if_success with_reducible refine Stop.mk ?_); (conv => whnf); with_reducible first | refine br_t ?_ | refine br_f ?_ | refine br_nn ?_ | refine br_ns ?_ | refine br_not ?_ | refine br_d (fun h => ?_) (fun h => ?_) | refine br_e (fun h => ?_) (fun h => ?_) | refine br_n (fun h => ?_) (fun h => ?_) | refine drw (by kernel_rfl) ?_ | refine chk (by kernel_rfl) ?_ | refine stop ?_)
          all_goals refine Stop.mk ?_
          · have hp20 : p2.2 = 0 := by assumption
            have hjj : j < u.1.toNat := by omega
            have hnext2 := hrun2.next hjj hp20 (x := (sMacR s.regs s.slots rs p2).1) (p' := (sMacR s.regs s.slots rs p2).2) rfl (nxR rs (sMacR s.regs s.slots rs p2).1) (fun _ => rfl)
            have hnr := nxR_le rs (sMacR s.regs s.slots rs p2).1 hr0
            refine call_fn [1, 3, 2, 4] (machine1_fn _ ⟨s.args, s.regs, s.slots, q.1⟩ w2 rs hC ⟨hs.1, hs.2.1, hs.2.2.1, hcr⟩ hrs ⟨hr0, by omega⟩) rfl ⟨rfl, rfl, rfl, rfl, trivial⟩ (by decide) ?_
            rintro sv H' G' ⟨rfl, rfl, rfl⟩ -
            refine ⟨Nat.le_of_ble_eq_true rfl, ?_⟩
            replace hC := hC.next (sMacR_suf s.regs s.slots rs p2)
            repeat' ((fail_if_success with_reducible refine Stop.mk ?_); (conv => whnf); with_reducible first | refine br_t ?_ | refine br_f ?_ | refine br_nn ?_ | refine br_ns ?_ | refine br_not ?_ | refine br_d (fun h => ?_) (fun h => ?_) | refine br_e (fun h => ?_) (fun h => ?_) | refine br_n (fun h => ?_) (fun h => ?_) | refine drw (by kernel_rfl) ?_ | refine chk (by kernel_rfl) ?_ | refine stop ?_)
            all_goals refine Stop.mk ?_
            rw [hw5]
            refine tell_here ⟨(j + 1, _, _, nxR rs (sMacR s.regs s.slots rs p2).1, nxR rs (sMacR s.regs s.slots rs p2).1), ⟨by show j + 1 ≤ _; omega, hC, hnext2, by rw [if_neg (by simp; omega)], hnr.1, by have := hnr.2; dsimp only; omega⟩, by show u.1.toNat - (j + 1) < u.1.toNat - j; omega, rfl, rfl, ?_⟩
            refine ⟨?_⟩
            (conv => whnf)
            (repeat' (first | exact trivial | exact .inl rfl | exact .inr rfl | refine And.intro ?_ ?_))
          · have he2 := hexit2 (by first | exact .inl (by omega) | exact .inr (by assumption))
            refine Stop.mk (hK0 _ _ ?_)
            clear hK0
            repeat' ((fail_if_success with_reducible refine Stop.mk ?_); (conv => whnf); with_reducible first | refine br_t ?_ | refine br_f ?_ | refine br_nn ?_ | refine br_ns ?_ | refine br_not ?_ | refine br_d (fun h => ?_) (fun h => ?_) | refine br_e (fun h => ?_) (fun h => ?_) | refine br_n (fun h => ?_) (fun h => ?_) | refine drw (by kernel_rfl) ?_ | refine chk (by kernel_rfl) ?_ | refine stop ?_)
            all_goals refine Stop.mk ?_
            rw [he2] at hblk hnext
            dsimp only at hblk hnext
            refine call_fn [1] (term_fn s.regs q.1 hC (by omega) (by omega)) rfl ⟨rfl, trivial⟩ (by decide) ?_
            rintro sv H' G' ⟨rfl, rfl, rfl⟩ -
            refine ⟨Nat.le_of_ble_eq_true rfl, ?_⟩
            replace hC := hC.next (sTrm_suf s.regs q.1 p2)
            have hst : (sTrm s.regs q.1 p2).2.2 = 0 → u.2.2 = 0 := fun h0 => Classical.byContradiction fun h9 => by
              have h8 : p2.2 ≠ 0 := by
                have h7 := sMCode_st (regs := s.regs) (slots := s.slots) (k := u.1) h9
                rw [he2] at h7
                rw [h7]; exact h9
              rw [sTrm_st h8 (by omega) (by omega)] at h0
              exact h8 h0
            generalize sTrm s.regs q.1 p2 = xp at *
            obtain ⟨tm, p3⟩ := xp
            dsimp only at hC hst hblk hnext
            repeat' ((fail_if_success with_reducible refine Stop.mk ?_); (conv => whnf); with_reducible first | refine br_t ?_ | refine br_f ?_ | refine br_nn ?_ | refine br_ns ?_ | refine br_not ?_ | refine br_d (fun h => ?_) (fun h => ?_) | refine br_e (fun h => ?_) (fun h => ?_) | refine br_n (fun h => ?_) (fun h => ?_) | refine drw (by kernel_rfl) ?_ | refine chk (by kernel_rfl) ?_ | refine stop ?_)
            all_goals refine Stop.mk ?_
            refine call_fn [1] (perr_fn (p := p3)) rfl ⟨rfl, trivial⟩ (by decide) ?_
            rintro sv H' G' ⟨rfl, rfl, rfl⟩ -
            refine ⟨Nat.le_of_ble_eq_true rfl, ?_⟩
            repeat' ((fail_if_success with_reducible refine Stop.mk ?_); (conv => whnf); with_reducible first | refine br_t ?_ | refine br_f ?_ | refine br_nn ?_ | refine br_ns ?_ | refine br_not ?_ | refine br_d (fun h => ?_) (fun h => ?_) | refine br_e (fun h => ?_) (fun h => ?_) | refine br_n (fun h => ?_) (fun h => ?_) | refine drw (by kernel_rfl) ?_ | refine chk (by kernel_rfl) ?_ | refine stop ?_)
            all_goals refine Stop.mk ?_
            · have hp3 : p3.2 = 0 := by assumption
              have hle := hu3 (hst hp3)
              rw [hw2]
              refine tell_here ⟨(k + 1, t + u.1, p3, acc ++ [u.1], w2), ⟨by show k + 1 ≤ _; omega, hC, hnext, fun _ => hp3, fun _ => ⟨⟨by dsimp only; omega, by dsimp only; omega⟩, by rw [sumI_snoc, hsum]⟩⟩, by show q.1.toNat - (k + 1) < q.1.toNat - k; omega, ?_, rfl, ?_⟩
              · show [_, _, _, _, _] = [_, _, _, _, _]; rw [sumI_snoc, ← Int.add_assoc]; rfl
              ·
                refine ⟨?_⟩
                (conv => whnf)
                (repeat' (first | exact trivial | exact .inl rfl | exact .inr rfl | refine And.intro ?_ ?_))
            · have hp3 : p3.2 ≠ 0 := by assumption
              have he := hnext.done (.inr hp3)
              refine fin_id hE 5 rfl rfl rfl rfl ⟨rfl, w2, ?_, rfl⟩
              rw [hpost, he, sumI_snoc, ← Int.add_assoc]
              rfl
        · have he2 := hexit2 (by first | exact .inl (by omega) | exact .inr (by assumption))
          refine Stop.mk (hK0 _ _ ?_)
          clear hK0
          repeat' ((fail_if_success with_reducible refine Stop.mk ?_); (conv => whnf); with_reducible first | refine br_t ?_ | refine br_f ?_ | refine br_nn ?_ | refine br_ns ?_ | refine br_not ?_ | refine br_d (fun h => ?_) (fun h => ?_) | refine br_e (fun h => ?_) (fun h => ?_) | refine br_n (fun h => ?_) (fun h => ?_) | refine drw (by kernel_rfl) ?_ | refine chk (by kernel_rfl) ?_ | refine stop ?_)
          all_goals refine Stop.mk ?_
          rw [he2] at hblk hnext
          dsimp only at hblk hnext
          refine call_fn [1] (term_fn s.regs q.1 hC (by omega) (by omega)) rfl ⟨rfl, trivial⟩ (by decide) ?_
          rintro sv H' G' ⟨rfl, rfl, rfl⟩ -
          refine ⟨Nat.le_of_ble_eq_true rfl, ?_⟩
          replace hC := hC.next (sTrm_suf s.regs q.1 p2)
          have hst : (sTrm s.regs q.1 p2).2.2 = 0 → u.2.2 = 0 := fun h0 => Classical.byContradiction fun h9 => by
            have h8 : p2.2 ≠ 0 := by
              have h7 := sMCode_st (regs := s.regs) (slots := s.slots) (k := u.1) h9
              rw [he2] at h7
              rw [h7]; exact h9
            rw [sTrm_st h8 (by omega) (by omega)] at h0
            exact h8 h0
          generalize sTrm s.regs q.1 p2 = xp at *
          obtain ⟨tm, p3⟩ := xp
          dsimp only at hC hst hblk hnext
          repeat' ((fail_if_success with_reducible refine Stop.mk ?_); (conv => whnf); with_reducible first | refine br_t ?_ | refine br_f ?_ | refine br_nn ?_ | refine br_ns ?_ | refine br_not ?_ | refine br_d (fun h => ?_) (fun h => ?_) | refine br_e (fun h => ?_) (fun h => ?_) | refine br_n (fun h => ?_) (fun h => ?_) | refine drw (by kernel_rfl) ?_ | refine chk (by kernel_rfl) ?_ | refine stop ?_)
          all_goals refine Stop.mk ?_
          refine call_fn [1] (perr_fn (p := p3)) rfl ⟨rfl, trivial⟩ (by decide) ?_
          rintro sv H' G' ⟨rfl, rfl, rfl⟩ -
          refine ⟨Nat.le_of_ble_eq_true rfl, ?_⟩
          repeat' ((fail_if_success with_reducible refine Stop.mk ?_); (conv => whnf); with_reducible first | refine br_t ?_ | refine br_f ?_ | refine br_nn ?_ | refine br_ns ?_ | refine br_not ?_ | refine br_d (fun h => ?_) (fun h => ?_) | refine br_e (fun h => ?_) (fun h => ?_) | refine br_n (fun h => ?_) (fun h => ?_) | refine drw (by kernel_rfl) ?_ | refine chk (by kernel_rfl) ?_ | refine stop ?_)
          all_goals refine Stop.mk ?_
          · have hp3 : p3.2 = 0 := by assumption
            have hle := hu3 (hst hp3)
            rw [hw2]
            refine tell_here ⟨(k + 1, t + u.1, p3, acc ++ [u.1], w2), ⟨by show k + 1 ≤ _; omega, hC, hnext, fun _ => hp3, fun _ => ⟨⟨by dsimp only; omega, by dsimp only; omega⟩, by rw [sumI_snoc, hsum]⟩⟩, by show q.1.toNat - (k + 1) < q.1.toNat - k; omega, ?_, rfl, ?_⟩
            · show [_, _, _, _, _] = [_, _, _, _, _]; rw [sumI_snoc, ← Int.add_assoc]; rfl
            ·
              refine ⟨?_⟩
              (conv => whnf)
              (repeat' (first | exact trivial | exact .inl rfl | exact .inr rfl | refine And.intro ?_ ?_))
          · have hp3 : p3.2 ≠ 0 := by assumption
            have he := hnext.done (.inr hp3)
            refine fin_id hE 5 rfl rfl rfl rfl ⟨rfl, w2, ?_, rfl⟩
            rw [hpost, he, sumI_snoc, ← Int.add_assoc]
            rfl
    · have he := hrun.done (.inl (by omega))
      refine fin_id hE 5 rfl rfl rfl rfl ⟨rfl, w, ?_, rfl⟩
      rw [hpost, he]
      rfl
end Go.Proofs.Ytkhajngpcgmpnaa.Cu
