/- The cost of decoding: the blocks of a source function. -/
import Derived.Test.YtkhajngpcgmpnaaDc2
namespace Go.Proofs.Ytkhajngpcgmpnaa.Cu
open Go Go.SX Go.Proofs.Ytkhajngpcgmpnaa.VT
set_option maxRecDepth 100000
set_option linter.unusedVariables false
set_option linter.unusedSimpArgs false

def cc1 : Ob := .cells 64 [.p 1 0]
theorem source1_fn {G : Gh} {A : Option Addr} {bs : List Int} {c : Nat} {p : Ps} (b : Bool) (s : Shp) (hC : CurOK G A c bs p) (hs : okShp s) :
    Ct Try.prog 50 [.v (.bool b), .p 1 0, .p 2 0] [curL A bs c p, ccO, shO s] G fun sv H' G' => sv = .tup [] ∧ H' = [curL A bs c (sIns s.regs p).2, ccO, shO s] ∧ G' = G := by
  refine fn_of follows [] Try.func50 rfl rfl fun E hE => ?_
  unfold ccO shO
  repeat' ((fail_if_success with_reducible refine Stop.mk ?_); (conv => whnf); with_reducible first | refine br_t ?_ | refine br_f ?_ | refine br_nn ?_ | refine br_ns ?_ | refine br_not ?_ | refine br_d (fun h => ?_) (fun h => ?_) | refine br_e (fun h => ?_) (fun h => ?_) | refine br_n (fun h => ?_) (fun h => ?_) | refine drw (by kernel_rfl) ?_ | refine chk (by kernel_rfl) ?_ | refine stop ?_)
  all_goals refine Stop.mk ?_
  refine call_fn [0] (ins_fn s.regs hC (by have := hs.2.1; omega)) rfl ⟨rfl, trivial⟩ (by decide) ?_
  rintro sv H' G' ⟨rfl, rfl, rfl⟩ -
  refine ⟨Nat.le_of_ble_eq_true rfl, ?_⟩
  repeat' ((fail_if_success with_reducible refine Stop.mk ?_); (conv => whnf); with_reducible first | refine br_t ?_ | refine br_f ?_ | refine br_nn ?_ | refine br_ns ?_ | refine br_not ?_ | refine br_d (fun h => ?_) (fun h => ?_) | refine br_e (fun h => ?_) (fun h => ?_) | refine br_n (fun h => ?_) (fun h => ?_) | refine drw (by kernel_rfl) ?_ | refine chk (by kernel_rfl) ?_ | refine stop ?_)
  all_goals refine Stop.mk ?_
  exact fin_id hE 3 rfl rfl rfl rfl ⟨rfl, rfl, rfl⟩
theorem sumI_snoc (l : List Int) (x : Int) : sumI (l ++ [x]) = sumI l + x := by unfold sumI; rw [List.foldl_append]; rfl
theorem sCount_nz {most size : Int} {p : Ps} (h : (sCount most size p).1 ≠ 0) : (sCount most size p).2.2 = 0 := by
  unfold sCount at h ⊢
  split
  · rename_i hp; rw [if_pos hp] at h; exact absurd rfl h
  · rename_i hp
    rw [if_neg hp] at h
    split
    · rfl
    · rename_i hq; rw [if_neg hq] at h; exact absurd rfl h
theorem cntB_nz {p : Ps} (h : (cntB p).1 ≠ 0) : (cntB p).2.2 = 0 := by
  have h1 : (sCount 1048576 3 p).1 ≠ 0 := h
  unfold cntB cntC
  rw [if_pos (decide_eq_true h1)]
  exact sCount_nz h1
theorem cntI_le {t : Int} {p : Ps} (h : (cntI t p).2.2 = 0) : t + (cntI t p).1 ≤ 1048576 := by
  unfold cntI cntC at h ⊢
  dsimp only at h ⊢
  split at h
  · rename_i hg; exact of_decide_eq_true hg
  · exact absurd h (sFail_ne (by decide))
set_option maxHeartbeats 8000000 in
theorem dblocks_fn {G : Gh} {A : Option Addr} {bs : List Int} {c : Nat} {p : Ps} (x : Cst) (s : Shp) (hC : CurOK G A c bs p) (hs : okShp s) (hx : okCst x 100000000) :
    Ct Try.prog 49 [.p 0 0, .p 1 0, .p 2 0, .f (.func 50) [] [.p 3 0, .p 2 0]] [xO x, curL A bs c p, shO s, cc1] G fun sv H' G' =>
      sv = .tup [] ∧ H' = [xO ⟨x.blocks + (cntB p).1, x.instrs + sumI (dBlks s.regs (cntB p).1 (cntB p).2).1, x.pairs, x.bytes⟩, curL A bs c (dBlks s.regs (cntB p).1 (cntB p).2).2, shO ⟨s.args, s.regs, s.slots, (cntB p).1⟩, cc1] ∧ G' = G := by
  have hcr := sCount_range (most := 1048576) (size := 3) hC.isb (by decide)
  have hs2 := hs.2.1
  obtain ⟨hx1, hx2, hx3, hx4⟩ := hx
  obtain ⟨q, hq⟩ : ∃ q, q = cntB p := ⟨_, rfl⟩
  have hq1 : q.1 = (sCount 1048576 3 p).1 := by rw [hq]; rfl
  have hCq : CurOK G A c bs q.2 := hq ▸ hC.next (cntC_suf _ _ _ _ _)
  have hqz : q.1 ≠ 0 → q.2.2 = 0 := by rw [hq]; exact cntB_nz
  rw [← hq]
  have hw1 : IntKind.i64.wrap (x.blocks + (sCount 1048576 3 p).1) = x.blocks + (sCount 1048576 3 p).1 := i64_in (by omega) (by omega)
  refine fn_of follows [(1, (.cons 0 [] (.cons 1 [] (.cons 2 [] (.cons 3 [] (.cons 4 [] (.cons 5 [] (.cons 6 [] (.cons 7 [] (.cons 8 [] (.cons 9 [] (.cons 10 [] (.cons 11 [] (.cons 12 [] (.cons 13 [4, 8] .nil))))))))))))))), (16, (.cons 0 [] (.cons 1 [] (.cons 2 [] (.cons 3 [] (.cons 4 [] (.cons 5 [] (.cons 6 [] (.cons 7 [] (.cons 8 [] (.cons 9 [4, 8] .nil)))))))))))] Try.func49 rfl rfl fun E hE => ?_
  unfold xO shO cc1
  repeat' ((fail_if_success with_reducible refine Stop.mk ?_); (conv => whnf); with_reducible first | refine br_t ?_ | refine br_f ?_ | refine br_nn ?_ | refine br_ns ?_ | refine br_not ?_ | refine br_d (fun h => ?_) (fun h => ?_) | refine br_e (fun h => ?_) (fun h => ?_) | refine br_n (fun h => ?_) (fun h => ?_) | refine drw (by kernel_rfl) ?_ | refine chk (by kernel_rfl) ?_ | refine stop ?_)
  all_goals refine Stop.mk ?_
  refine call_fn [1] (pcount_fn 1048576 3 hC (by decide) (by decide)) rfl ⟨rfl, trivial⟩ (by decide) ?_
  rintro sv H' G' ⟨rfl, rfl, rfl⟩ -
  refine ⟨Nat.le_of_ble_eq_true rfl, ?_⟩
  repeat' ((fail_if_success with_reducible refine Stop.mk ?_); (conv => whnf); with_reducible first | refine br_t ?_ | refine br_f ?_ | refine br_nn ?_ | refine br_ns ?_ | refine br_not ?_ | refine br_d (fun h => ?_) (fun h => ?_) | refine br_e (fun h => ?_) (fun h => ?_) | refine br_n (fun h => ?_) (fun h => ?_) | refine drw (by kernel_rfl) ?_ | refine chk (by kernel_rfl) ?_ | refine stop ?_)
  all_goals refine Stop.mk ?_
  all_goals rw [hw1]
  ·
    refine call_fn [1] (pfail_fn 14 (p := (sCount 1048576 3 p).2)) rfl ⟨rfl, trivial⟩ (by decide) ?_
    rintro sv H' G' ⟨rfl, rfl, rfl⟩ -
    refine ⟨Nat.le_of_ble_eq_true rfl, ?_⟩
    have hq2 : sFail 14 (sCount 1048576 3 p).2 = q.2 := by rw [hq]; unfold cntB cntC; rw [if_neg (by simp only [decide_eq_true_eq]; omega)]
    rw [hq2]
    have hq0 : q.1 = 0 := by rw [hq1]; assumption
    clear hw1 hqz hq
    rw [← hq1]
    rw [hq0]
    repeat' ((fail_if_success with_reducible refine Stop.mk ?_); (conv => whnf); with_reducible first | refine br_t ?_ | refine br_f ?_ | refine br_nn ?_ | refine br_ns ?_ | refine br_not ?_ | refine br_d (fun h => ?_) (fun h => ?_) | refine br_e (fun h => ?_) (fun h => ?_) | refine br_n (fun h => ?_) (fun h => ?_) | refine drw (by kernel_rfl) ?_ | refine chk (by kernel_rfl) ?_ | refine stop ?_)
    all_goals refine Stop.mk ?_
    refine loop_unroll follows [(1, (.cons 0 [] (.cons 1 [] (.cons 2 [] (.cons 3 [] (.cons 4 [] (.cons 5 [] (.cons 6 [] (.cons 7 [] (.cons 8 [] (.cons 9 [] (.cons 10 [] (.cons 11 [] (.cons 12 [] (.cons 13 [4, 8] .nil))))))))))))))), (16, (.cons 0 [] (.cons 1 [] (.cons 2 [] (.cons 3 [] (.cons 4 [] (.cons 5 [] (.cons 6 [] (.cons 7 [] (.cons 8 [] (.cons 9 [4, 8] .nil)))))))))))] 1 ?_
    repeat' ((fail_if_success with_reducible refine Stop.mk ?_); (conv => whnf); first | with_reducible refine br_t ?_ | with_reducible refine br_f ?_ | with_reducible refine br_nn ?_ | with_reducible refine br_ns ?_ | with_reducible refine br_not ?_ | ((with_reducible refine br_d (fun h => ?_) (fun h => ?_)) <;> try (exfalso; omega)) | ((with_reducible refine br_e (fun h => ?_) (fun h => ?_)) <;> try (exfalso; omega)) | ((with_reducible refine br_n (fun h => ?_) (fun h => ?_)) <;> try (exfalso; omega)) | with_reducible refine drw (by kernel_rfl) ?_ | with_reducible refine chk (by kernel_rfl) ?_ | with_reducible refine stop ?_)
    all_goals refine Stop.mk ?_
    have hz : dBlks s.regs 0 q.2 = ([], q.2) := rfl
    refine fin_id hE 4 rfl rfl rfl rfl ⟨rfl, ?_, rfl⟩
    rw [hz, show x.instrs + sumI [] = x.instrs from Int.add_zero _]
    rfl
  · have hq2 : (sCount 1048576 3 p).2 = q.2 := by rw [hq]; unfold cntB cntC; rw [if_pos (by simp only [decide_eq_true_eq]; omega)]
    rw [hq2]
    clear hq2 h hw1
    rw [← hq1] at hcr ⊢
    clear hq1 hq hC
    have hpost : dBlks s.regs q.1 q.2 = rep (sBlkN s.regs q.1) addN q.1.toNat 0 q.2 := rfl
    refine loop_vars follows [(1, (.cons 0 [] (.cons 1 [] (.cons 2 [] (.cons 3 [] (.cons 4 [] (.cons 5 [] (.cons 6 [] (.cons 7 [] (.cons 8 [] (.cons 9 [] (.cons 10 [] (.cons 11 [] (.cons 12 [] (.cons 13 [4, 8] .nil))))))))))))))), (16, (.cons 0 [] (.cons 1 [] (.cons 2 [] (.cons 3 [] (.cons 4 [] (.cons 5 [] (.cons 6 [] (.cons 7 [] (.cons 8 [] (.cons 9 [4, 8] .nil)))))))))))] (α := Nat × Int × Ps × List Int) (fun y => [(8, .v (.int .i64 y.2.1)), (40, .v (.int .i64 y.1))])
      (fun y => [.cells 58 [.v (.int .i64 (x.blocks + q.1)), .v (.int .i64 (x.instrs + sumI y.2.2.2)), .v (.int .i64 x.pairs), .v (.int .i64 x.bytes)], curL A bs c y.2.2.1, .cells 67 [.v (.int .i64 s.args), .v (.int .i64 s.regs), .v (.int .i64 s.slots), .v (.int .i64 q.1)], .cells 64 [.p 1 0]]) (fun y => G')
      (fun y => y.1 ≤ q.1.toNat ∧ CurOK G' A c bs y.2.2.1 ∧ Run (sBlkN s.regs q.1) addN q.1.toNat 0 q.2 y.1 y.2.1 y.2.2.1 y.2.2.2 ∧ (y.1 < q.1.toNat → y.2.2.1.2 = 0) ∧ (y.2.2.1.2 = 0 → (0 ≤ y.2.1 ∧ y.2.1 ≤ 1048576) ∧ sumI y.2.2.2 = y.2.1))
      (fun y => q.1.toNat - y.1) (0, 0, q.2, [])
      ⟨Nat.zero_le _, hCq, Run.start _ _ _, fun h => hqz (by show q.1 ≠ 0; intro h0; rw [h0] at h; exact absurd h (Nat.lt_irrefl _)), fun _ => ⟨⟨Int.le_refl _, by dsimp only; decide⟩, rfl⟩⟩ (by show [_, _, _, _] = [_, _, _, _]; rw [show x.instrs + sumI [] = x.instrs from Int.add_zero _]; rfl) rfl ?_ ?_
    ·
      refine ⟨?_⟩
      (conv => whnf)
      (repeat' (first | exact trivial | exact .inl rfl | exact .inr rfl | refine And.intro ?_ ?_))
    clear hCq
    rintro ⟨k, t, p1, acc⟩ ⟨hk, hC, hrun, hz, ht⟩
    dsimp only at hk hC hrun hz ht ⊢
    have hw2 : IntKind.i64.wrap ((k : Int) + 1) = ((k + 1 : Nat) : Int) := by rw [i64_in (by omega) (by omega)]; simp
    repeat' ((fail_if_success with_reducible refine Stop.mk ?_); (conv => whnf); with_reducible first | refine br_t ?_ | refine br_f ?_ | refine br_nn ?_ | refine br_ns ?_ | refine br_not ?_ | refine br_d (fun h => ?_) (fun h => ?_) | refine br_e (fun h => ?_) (fun h => ?_) | refine br_n (fun h => ?_) (fun h => ?_) | refine drw (by kernel_rfl) ?_ | refine chk (by kernel_rfl) ?_ | refine stop ?_)
    all_goals refine Stop.mk ?_
    · have hkk : k < q.1.toNat := by omega
      have hp0 := hz hkk
      obtain ⟨⟨ht1, ht2⟩, hsum⟩ := ht hp0
      have hcr2 := sCount_range (most := 1048576) (size := 2) hC.isb (by decide)
      refine call_fn [1] (pcount_fn 1048576 2 hC (by decide) (by decide)) rfl ⟨rfl, trivial⟩ (by decide) ?_
      rintro sv H' G' ⟨rfl, rfl, rfl⟩ -
      refine ⟨Nat.le_of_ble_eq_true rfl, ?_⟩
      have hw3 : IntKind.i64.wrap (t + (sCount 1048576 2 p1).1) = t + (sCount 1048576 2 p1).1 := i64_in (by omega) (by omega)
      have hw4 : IntKind.i64.wrap (x.instrs + sumI acc + (sCount 1048576 2 p1).1) = x.instrs + sumI acc + (sCount 1048576 2 p1).1 := i64_in (by omega) (by omega)
      obtain ⟨u, hu⟩ : ∃ u, u = cntI t p1 := ⟨_, rfl⟩
      have hu1 : u.1 = (sCount 1048576 2 p1).1 := by rw [hu]; rfl
      have hCu := hC.next (q := u.2) (by rw [hu]; exact cntC_suf _ _ _ _ _)
      have hu3 : u.2.2 = 0 → t + u.1 ≤ 1048576 := by rw [hu]; exact cntI_le
      have hblk : sBlkN s.regs q.1 t p1 = (u.1, (sTrm s.regs q.1 (sCode s.regs u.1 u.2).2).2) := by rw [hu]; rfl
      have hnext := hrun.next hkk hp0 hblk (t + u.1) (fun _ => rfl)
      repeat' ((fail_if_success with_reducible refine Stop.mk ?_); (conv => whnf); with_reducible first | refine br_t ?_ | refine br_f ?_ | refine br_nn ?_ | refine br_ns ?_ | refine br_not ?_ | refine br_d (fun h => ?_) (fun h => ?_) | refine br_e (fun h => ?_) (fun h => ?_) | refine br_n (fun h => ?_) (fun h => ?_) | refine drw (by kernel_rfl) ?_ | refine chk (by kernel_rfl) ?_ | refine stop ?_)
      all_goals refine Stop.mk ?_
      all_goals rw [hw3] at h ⊢
      all_goals try
        refine call_fn [1] (pfail_fn 6 (p := (sCount 1048576 2 p1).2)) rfl ⟨rfl, trivial⟩ (by decide) ?_
        rintro sv H' G' ⟨rfl, rfl, rfl⟩ -
        refine ⟨Nat.le_of_ble_eq_true rfl, ?_⟩
        have hu2 : sFail 6 (sCount 1048576 2 p1).2 = u.2 := by rw [hu]; unfold cntI cntC; rw [if_neg (by simp only [decide_eq_true_eq]; omega)]
        rw [hu2]
        repeat' ((fail_if_success with_reducible refine Stop.mk ?_); (conv => whnf); with_reducible first | refine br_t ?_ | refine br_f ?_ | refine br_nn ?_ | refine br_ns ?_ | refine br_not ?_ | refine br_d (fun h => ?_) (fun h => ?_) | refine br_e (fun h => ?_) (fun h => ?_) | refine br_n (fun h => ?_) (fun h => ?_) | refine drw (by kernel_rfl) ?_ | refine chk (by kernel_rfl) ?_ | refine stop ?_)
        all_goals refine Stop.mk ?_
      all_goals try
        have hu2 : (sCount 1048576 2 p1).2 = u.2 := by rw [hu]; unfold cntI cntC; rw [if_pos (by simp only [decide_eq_true_eq]; omega)]
        rw [hu2]
      all_goals
        clear hu2 hw3 h
        rw [hw4]
        clear hw4
        rw [← hu1] at hcr2 ⊢
        clear hu1 hu
        refine loop_opq fun K0 hK0 => ?_
        refine loop_vars follows [(1, (.cons 0 [] (.cons 1 [] (.cons 2 [] (.cons 3 [] (.cons 4 [] (.cons 5 [] (.cons 6 [] (.cons 7 [] (.cons 8 [] (.cons 9 [] (.cons 10 [] (.cons 11 [] (.cons 12 [] (.cons 13 [4, 8] .nil))))))))))))))), (16, (.cons 0 [] (.cons 1 [] (.cons 2 [] (.cons 3 [] (.cons 4 [] (.cons 5 [] (.cons 6 [] (.cons 7 [] (.cons 8 [] (.cons 9 [4, 8] .nil)))))))))))] (α := Nat × Ps × List Ins) (fun y => [(10, .v (.int .i64 y.1))])
          (fun y => [.cells 58 [.v (.int .i64 (x.blocks + q.1)), .v (.int .i64 (x.instrs + sumI acc + u.1)), .v (.int .i64 x.pairs), .v (.int .i64 x.bytes)], curL A bs c y.2.1, .cells 67 [.v (.int .i64 s.args), .v (.int .i64 s.regs), .v (.int .i64 s.slots), .v (.int .i64 q.1)], .cells 64 [.p 1 0]]) (fun y => G')
          (fun y => y.1 ≤ u.1.toNat ∧ CurOK G' A c bs y.2.1 ∧ Run (fun (_ : Unit) => sIns s.regs) nxU u.1.toNat () u.2 y.1 () y.2.1 y.2.2)
          (fun y => u.1.toNat - y.1) (0, u.2, [])
          ⟨Nat.zero_le _, hCu, Run.start _ _ _⟩ rfl rfl ?_ ?_
        ·
          refine ⟨?_⟩
          (conv => whnf)
          (repeat' (first | exact trivial | exact .inl rfl | exact .inr rfl | refine And.intro ?_ ?_))
        clear hC hCu
        rintro ⟨j, p2, cs⟩ ⟨hj, hC, hrun2⟩
        dsimp only at hj hC hrun2 ⊢
        have hw5 : IntKind.i64.wrap ((j : Int) + 1) = ((j + 1 : Nat) : Int) := by rw [i64_in (by omega) (by omega)]; simp
        have hexit2 : ∀ (hd : u.1.toNat ≤ j ∨ p2.2 ≠ 0), sCode s.regs u.1 u.2 = (cs, p2) := fun hd => hrun2.done hd
        repeat' ((fail_if_success with_reducible refine Stop.mk ?_); (conv => whnf); with_reducible first | refine br_t ?_ | refine br_f ?_ | refine br_nn ?_ | refine br_ns ?_ | refine br_not ?_ | refine br_d (fun h => ?_) (fun h => ?_) | refine br_e (fun h => ?_) (fun h => ?_) | refine br_n (fun h => ?_) (fun h => ?_) | refine drw (by kernel_rfl) ?_ | refine chk (by kernel_rfl) ?_ | refine stop ?_)
        all_goals refine Stop.mk ?_
        ·
          refine call_fn [1] (perr_fn (p := p2)) rfl ⟨rfl, trivial⟩ (by decide) ?_
          rintro sv H' G' ⟨rfl, rfl, rfl⟩ -
          refine ⟨Nat.le_of_ble_eq_true rfl, ?_⟩
          repeat' ((fail_if_success with_reducible refine Stop.mk ?_); (conv => whnf); with_reducible first | refine br_t ?_ | refine br_f ?_ | refine br_nn ?_ | refine br_ns ?_ | refine br_not ?_ | refine br_d (fun h => ?_) (fun h => ?_) | refine br_e (fun h => ?_) (fun h => ?_) | refine br_n (fun h => ?_) (fun h => ?_) | refine drw (by kernel_rfl) ?_ | refine chk (by kernel_rfl) ?_ | refine stop ?_)
          all_goals refine Stop.mk ?_
          · have hp20 : p2.2 = 0 := by assumption
            have hjj : j < u.1.toNat := by omega
            have hnext2 := hrun2.next hjj hp20 (x := (sIns s.regs p2).1) (p' := (sIns s.regs p2).2) rfl () (fun _ => rfl)
            refine call_fn [1, 3, 2] (source1_fn _ ⟨s.args, s.regs, s.slots, q.1⟩ hC ⟨hs.1, hs.2.1, hs.2.2.1, hcr⟩) rfl ⟨rfl, rfl, rfl, trivial⟩ (by decide) ?_
            rintro sv H' G' ⟨rfl, rfl, rfl⟩ -
            refine ⟨Nat.le_of_ble_eq_true rfl, ?_⟩
            replace hC := hC.next (sIns_suf s.regs p2)
            repeat' ((fail_if_success with_reducible refine Stop.mk ?_); (conv => whnf); with_reducible first | refine br_t ?_ | refine br_f ?_ | refine br_nn ?_ | refine br_ns ?_ | refine br_not ?_ | refine br_d (fun h => ?_) (fun h => ?_) | refine br_e (fun h => ?_) (fun h => ?_) | refine br_n (fun h => ?_) (fun h => ?_) | refine drw (by kernel_rfl) ?_ | refine chk (by kernel_rfl) ?_ | refine stop ?_)
            all_goals refine Stop.mk ?_
            rw [hw5]
            refine tell_here ⟨(j + 1, _, _), ⟨by show j + 1 ≤ _; omega, hC, hnext2⟩, by show u.1.toNat - (j + 1) < u.1.toNat - j; omega, rfl, rfl, ?_⟩
            refine ⟨?_⟩
            (conv => whnf)
            (repeat' (first | exact trivial | exact .inl rfl | exact .inr rfl | refine And.intro ?_ ?_))
          · have he2 := hexit2 (by first | exact .inl (by omega) | exact .inr (by assumption))
            refine Stop.mk (hK0 _ _ ?_)
            clear hK0
            repeat' ((fail_if_success with_reducible refine Stop.mk ?_); (conv => whnf); with_reducible first | refine br_t ?_ | refine br_f ?_ | refine br_nn ?_ | refine br_ns ?_ | refine br_not ?_ | refine br_d (fun h => ?_) (fun h => ?_) | refine br_e (fun h => ?_) (fun h => ?_) | refine br_n (fun h => ?_) (fun h => ?_) | refine drw (by kernel_rfl) ?_ | refine chk (by kernel_rfl) ?_ | refine stop ?_)
            all_goals refine Stop.mk ?_
            rw [he2] at hblk hnext
            dsimp only at hblk hnext
            refine call_fn [1] (term_fn s.regs q.1 hC (by omega) (by omega)) rfl ⟨rfl, trivial⟩ (by decide) ?_
            rintro sv H' G' ⟨rfl, rfl, rfl⟩ -
            refine ⟨Nat.le_of_ble_eq_true rfl, ?_⟩
            replace hC := hC.next (sTrm_suf s.regs q.1 p2)
            have hst : (sTrm s.regs q.1 p2).2.2 = 0 → u.2.2 = 0 := fun h0 => Classical.byContradiction fun h9 => by
              have h8 : p2.2 ≠ 0 := by
                have h7 := sCode_st (regs := s.regs) (k := u.1) h9
                rw [he2] at h7
                rw [h7]; exact h9
              rw [sTrm_st h8 (by omega) (by omega)] at h0
              exact h8 h0
            generalize sTrm s.regs q.1 p2 = xp at *
            obtain ⟨tm, p3⟩ := xp
            dsimp only at hC hst hblk hnext
            repeat' ((fail_if_success with_reducible refine Stop.mk ?_); (conv => whnf); with_reducible first | refine br_t ?_ | refine br_f ?_ | refine br_nn ?_ | refine br_ns ?_ | refine br_not ?_ | refine br_d (fun h => ?_) (fun h => ?_) | refine br_e (fun h => ?_) (fun h => ?_) | refine br_n (fun h => ?_) (fun h => ?_) | refine drw (by kernel_rfl) ?_ | refine chk (by kernel_rfl) ?_ | refine stop ?_)
            all_goals refine Stop.mk ?_
            refine call_fn [1] (perr_fn (p := p3)) rfl ⟨rfl, trivial⟩ (by decide) ?_
            rintro sv H' G' ⟨rfl, rfl, rfl⟩ -
            refine ⟨Nat.le_of_ble_eq_true rfl, ?_⟩
            repeat' ((fail_if_success with_reducible refine Stop.mk ?_); (conv => whnf); with_reducible first | refine br_t ?_ | refine br_f ?_ | refine br_nn ?_ | refine br_ns ?_ | refine br_not ?_ | refine br_d (fun h => ?_) (fun h => ?_) | refine br_e (fun h => ?_) (fun h => ?_) | refine br_n (fun h => ?_) (fun h => ?_) | refine drw (by kernel_rfl) ?_ | refine chk (by kernel_rfl) ?_ | refine stop ?_)
            all_goals refine Stop.mk ?_
            · have hp3 : p3.2 = 0 := by assumption
              have hle := hu3 (hst hp3)
              rw [hw2]
              refine tell_here ⟨(k + 1, t + u.1, p3, acc ++ [u.1]), ⟨by show k + 1 ≤ _; omega, hC, hnext, fun _ => hp3, fun _ => ⟨⟨by dsimp only; omega, by dsimp only; omega⟩, by rw [sumI_snoc, hsum]⟩⟩, by show q.1.toNat - (k + 1) < q.1.toNat - k; omega, ?_, rfl, ?_⟩
              · show [_, _, _, _] = [_, _, _, _]; rw [sumI_snoc, ← Int.add_assoc]; rfl
              ·
                refine ⟨?_⟩
                (conv => whnf)
                (repeat' (first | exact trivial | exact .inl rfl | exact .inr rfl | refine And.intro ?_ ?_))
            · have hp3 : p3.2 ≠ 0 := by assumption
              have he := hnext.done (.inr hp3)
              refine fin_id hE 4 rfl rfl rfl rfl ⟨rfl, ?_, rfl⟩
              rw [hpost, he, sumI_snoc, ← Int.add_assoc]
              rfl
        · have he2 := hexit2 (by first | exact .inl (by omega) | exact .inr (by assumption))
          refine Stop.mk (hK0 _ _ ?_)
          clear hK0
          repeat' ((fail_if_success with_reducible refine Stop.mk ?_); (conv => whnf); with_reducible first | refine br_t ?_ | refine br_f ?_ | refine br_nn ?_ | refine br_ns ?_ | refine br_not ?_ | refine br_d (fun h => ?_) (fun h => ?_) | refine br_e (fun h => ?_) (fun h => ?_) | refine br_n (fun h => ?_) (fun h => ?_) | refine drw (by kernel_rfl) ?_ | refine chk (by kernel_rfl) ?_ | refine stop ?_)
          all_goals refine Stop.mk ?_
          rw [he2] at hblk hnext
          dsimp only at hblk hnext
          refine call_fn [1] (term_fn s.regs q.1 hC (by omega) (by omega)) rfl ⟨rfl, trivial⟩ (by decide) ?_
          rintro sv H' G' ⟨rfl, rfl, rfl⟩ -
          refine ⟨Nat.le_of_ble_eq_true rfl, ?_⟩
          replace hC := hC.next (sTrm_suf s.regs q.1 p2)
          have hst : (sTrm s.regs q.1 p2).2.2 = 0 → u.2.2 = 0 := fun h0 => Classical.byContradiction fun h9 => by
            have h8 : p2.2 ≠ 0 := by
              have h7 := sCode_st (regs := s.regs) (k := u.1) h9
              rw [he2] at h7
              rw [h7]; exact h9
            rw [sTrm_st h8 (by omega) (by omega)] at h0
            exact h8 h0
          generalize sTrm s.regs q.1 p2 = xp at *
          obtain ⟨tm, p3⟩ := xp
          dsimp only at hC hst hblk hnext
          repeat' ((fail_if_success with_reducible refine Stop.mk ?_); (conv => whnf); with_reducible first | refine br_t ?_ | refine br_f ?_ | refine br_nn ?_ | refine br_ns ?_ | refine br_not ?_ | refine br_d (fun h => ?_) (fun h => ?_) | refine br_e (fun h => ?_) (fun h => ?_) | refine br_n (fun h => ?_) (fun h => ?_) | refine drw (by kernel_rfl) ?_ | refine chk (by kernel_rfl) ?_ | refine stop ?_)
          all_goals refine Stop.mk ?_
          refine call_fn [1] (perr_fn (p := p3)) rfl ⟨rfl, trivial⟩ (by decide) ?_
          rintro sv H' G' ⟨rfl, rfl, rfl⟩ -
          refine ⟨Nat.le_of_ble_eq_true rfl, ?_⟩
          repeat' ((fail_if_success with_reducible refine Stop.mk ?_); (conv => whnf); with_reducible first | refine br_t ?_ | refine br_f ?_ | refine br_nn ?_ | refine br_ns ?_ | refine br_not ?_ | refine br_d (fun h => ?_) (fun h => ?_) | refine br_e (fun h => ?_) (fun h => ?_) | refine br_n (fun h => ?_) (fun h => ?_) | refine drw (by kernel_rfl) ?_ | refine chk (by kernel_rfl) ?_ | refine stop ?_)
          all_goals refine Stop.mk ?_
          · have hp3 : p3.2 = 0 := by assumption
            have hle := hu3 (hst hp3)
            rw [hw2]
            refine tell_here ⟨(k + 1, t + u.1, p3, acc ++ [u.1]), ⟨by show k + 1 ≤ _; omega, hC, hnext, fun _ => hp3, fun _ => ⟨⟨by dsimp only; omega, by dsimp only; omega⟩, by rw [sumI_snoc, hsum]⟩⟩, by show q.1.toNat - (k + 1) < q.1.toNat - k; omega, ?_, rfl, ?_⟩
            · show [_, _, _, _] = [_, _, _, _]; rw [sumI_snoc, ← Int.add_assoc]; rfl
            ·
              refine ⟨?_⟩
              (conv => whnf)
              (repeat' (first | exact trivial | exact .inl rfl | exact .inr rfl | refine And.intro ?_ ?_))
          · have hp3 : p3.2 ≠ 0 := by assumption
            have he := hnext.done (.inr hp3)
            refine fin_id hE 4 rfl rfl rfl rfl ⟨rfl, ?_, rfl⟩
            rw [hpost, he, sumI_snoc, ← Int.add_assoc]
            rfl
    · have he := hrun.done (.inl (by omega))
      refine fin_id hE 4 rfl rfl rfl rfl ⟨rfl, ?_, rfl⟩
      rw [hpost, he]
      rfl
end Go.Proofs.Ytkhajngpcgmpnaa.Cu
