/- The cost of decoding: the invariants, the sections. -/
import Derived.Test.YtkhajngpcgmpnaaDc5
namespace Go.Proofs.Ytkhajngpcgmpnaa.Cu
open Go Go.SX Go.Proofs.Ytkhajngpcgmpnaa.VT
set_option maxRecDepth 100000
set_option linter.unusedVariables false
set_option linter.unusedSimpArgs false

theorem cntI_suf (t : Int) (p : Ps) : (cntI t p).2.1 <:+ p.1 := cntC_suf _ _ _ _ _
set_option maxHeartbeats 8000000 in
theorem dwit_fn {G : Gh} {A : Option Addr} {bs : List Int} {c : Nat} {p : Ps} (x : Cst) (s t : Shp) (hC : CurOK G A c bs p) (hs : okShp s) (ht : okShp t) (hx : okCst x 100000000) :
    Ct Try.prog 24 [.p 0 0, .p 1 0, s.sv, t.sv] [xO x, curL A bs c p] G fun sv H' G' =>
      sv = .tup [] ∧ ∃ q, H' = [xO ⟨x.blocks, x.instrs, x.pairs + sumI (dInv s.regs t.regs t.slots s.blocks p).1, x.bytes⟩, curL A bs c q] ∧ G' = G := by
  obtain ⟨hx1, hx2, hx3, hx4⟩ := hx
  have hsb := hs.2.2.2
  have hpost : dInv s.regs t.regs t.slots s.blocks p = rep (sBlkW s.regs t.regs t.slots) addN s.blocks.toNat 0 p := rfl
  refine fn_of follows [] Try.func24 rfl rfl fun E hE => ?_
  unfold xO Shp.sv
  repeat' ((fail_if_success with_reducible refine Stop.mk ?_); (conv => whnf); with_reducible first | refine br_t ?_ | refine br_f ?_ | refine br_nn ?_ | refine br_ns ?_ | refine br_not ?_ | refine br_d (fun h => ?_) (fun h => ?_) | refine br_e (fun h => ?_) (fun h => ?_) | refine br_n (fun h => ?_) (fun h => ?_) | refine drw (by kernel_rfl) ?_ | refine chk (by kernel_rfl) ?_ | refine stop ?_)
  all_goals refine Stop.mk ?_
  refine loop_vars follows [] (α := Nat × Int × Ps × Ps × List Int) (fun y => [(8, .v (.int .i64 y.2.1)), (9, .v (.int .i64 y.1))])
    (fun y => [.cells 58 [.v (.int .i64 x.blocks), .v (.int .i64 x.instrs), .v (.int .i64 (x.pairs + sumI y.2.2.2.2)), .v (.int .i64 x.bytes)], curL A bs c y.2.2.1, .cells 67 [.v (.int .i64 s.args), .v (.int .i64 s.regs), .v (.int .i64 s.slots), .v (.int .i64 s.blocks)], .cells 67 [.v (.int .i64 t.args), .v (.int .i64 t.regs), .v (.int .i64 t.slots), .v (.int .i64 t.blocks)]]) (fun y => G)
    (fun y => y.1 ≤ s.blocks.toNat ∧ CurOK G A c bs y.2.2.1 ∧ Eqv y.2.2.1 y.2.2.2.1 ∧ Run (sBlkW s.regs t.regs t.slots) addN s.blocks.toNat 0 p y.1 y.2.1 y.2.2.2.1 y.2.2.2.2 ∧ (y.2.2.1.2 = 0 → (0 ≤ y.2.1 ∧ y.2.1 ≤ 1048576) ∧ sumI y.2.2.2.2 = y.2.1))
    (fun y => s.blocks.toNat - y.1) (0, 0, p, p, [])
    ⟨Nat.zero_le _, hC, .inl rfl, Run.start _ _ _, fun _ => ⟨⟨Int.le_refl _, by dsimp only; decide⟩, rfl⟩⟩ (by show [_, _, _, _] = [_, _, _, _]; rw [show x.pairs + sumI [] = x.pairs from Int.add_zero _]) rfl ?_ ?_
  ·
    refine ⟨?_⟩
    (conv => whnf)
    (repeat' (first | exact trivial | exact .inl rfl | exact .inr rfl | refine And.intro ?_ ?_))
  rintro ⟨k, T, q, r, acc⟩ ⟨hk, hCq, hqv, hrun, hrel⟩
  dsimp only at hk hCq hqv hrun hrel ⊢
  have hw2 : IntKind.i64.wrap ((k : Int) + 1) = ((k + 1 : Nat) : Int) := by rw [i64_in (by omega) (by omega)]; simp
  repeat' ((fail_if_success with_reducible refine Stop.mk ?_); (conv => whnf); with_reducible first | refine br_t ?_ | refine br_f ?_ | refine br_nn ?_ | refine br_ns ?_ | refine br_not ?_ | refine br_d (fun h => ?_) (fun h => ?_) | refine br_e (fun h => ?_) (fun h => ?_) | refine br_n (fun h => ?_) (fun h => ?_) | refine drw (by kernel_rfl) ?_ | refine chk (by kernel_rfl) ?_ | refine stop ?_)
  all_goals refine Stop.mk ?_
  ·
    refine call_fn [1] (perr_fn (p := q)) rfl ⟨rfl, trivial⟩ (by decide) ?_
    rintro sv H' G' ⟨rfl, rfl, rfl⟩ -
    refine ⟨Nat.le_of_ble_eq_true rfl, ?_⟩
    repeat' ((fail_if_success with_reducible refine Stop.mk ?_); (conv => whnf); with_reducible first | refine br_t ?_ | refine br_f ?_ | refine br_nn ?_ | refine br_ns ?_ | refine br_not ?_ | refine br_d (fun h => ?_) (fun h => ?_) | refine br_e (fun h => ?_) (fun h => ?_) | refine br_n (fun h => ?_) (fun h => ?_) | refine drw (by kernel_rfl) ?_ | refine chk (by kernel_rfl) ?_ | refine stop ?_)
    all_goals refine Stop.mk ?_
    · have hq0 : q.2 = 0 := by assumption
      have hkk : k < s.blocks.toNat := by omega
      obtain rfl := hqv.zero hq0
      obtain ⟨⟨ht1, ht2⟩, hsum⟩ := hrel hq0
      have hcr2 := sCount_range (most := 1048576) (size := 2) hCq.isb (by decide)
      refine call_fn [1] (pcount_fn 1048576 2 hCq (by decide) (by decide)) rfl ⟨rfl, trivial⟩ (by decide) ?_
      rintro sv H' G' ⟨rfl, rfl, rfl⟩ -
      refine ⟨Nat.le_of_ble_eq_true rfl, ?_⟩
      have hw3 : IntKind.i64.wrap (T + (sCount 1048576 2 r).1) = T + (sCount 1048576 2 r).1 := i64_in (by omega) (by omega)
      have hw4 : IntKind.i64.wrap (x.pairs + sumI acc + (sCount 1048576 2 r).1) = x.pairs + sumI acc + (sCount 1048576 2 r).1 := i64_in (by omega) (by omega)
      obtain ⟨u, hu⟩ : ∃ u, u = cntI T r := ⟨_, rfl⟩
      have hu1 : u.1 = (sCount 1048576 2 r).1 := by rw [hu]; rfl
      have hCu := hCq.next (q := u.2) (by rw [hu]; exact cntI_suf _ _)
      have hu3 : u.2.2 = 0 → T + u.1 ≤ 1048576 := by rw [hu]; exact cntI_le
      have hblk : sBlkW s.regs t.regs t.slots T r = (u.1, (sPrs s.regs t.regs t.slots u.1 u.2).2) := by rw [hu]; rfl
      have hnext := hrun.next hkk hq0 hblk (T + u.1) (fun _ => rfl)
      repeat' ((fail_if_success with_reducible refine Stop.mk ?_); (conv => whnf); with_reducible first | refine br_t ?_ | refine br_f ?_ | refine br_nn ?_ | refine br_ns ?_ | refine br_not ?_ | refine br_d (fun h => ?_) (fun h => ?_) | refine br_e (fun h => ?_) (fun h => ?_) | refine br_n (fun h => ?_) (fun h => ?_) | refine drw (by kernel_rfl) ?_ | refine chk (by kernel_rfl) ?_ | refine stop ?_)
      all_goals refine Stop.mk ?_
      all_goals rw [hw3] at h ⊢
      all_goals try
        refine call_fn [1] (pfail_fn 6 (p := (sCount 1048576 2 r).2)) rfl ⟨rfl, trivial⟩ (by decide) ?_
        rintro sv H' G' ⟨rfl, rfl, rfl⟩ -
        refine ⟨Nat.le_of_ble_eq_true rfl, ?_⟩
        have hu2 : sFail 6 (sCount 1048576 2 r).2 = u.2 := by rw [hu]; unfold cntI cntC; rw [if_neg (by simp only [decide_eq_true_eq]; omega)]
        rw [hu2]
        repeat' ((fail_if_success with_reducible refine Stop.mk ?_); (conv => whnf); with_reducible first | refine br_t ?_ | refine br_f ?_ | refine br_nn ?_ | refine br_ns ?_ | refine br_not ?_ | refine br_d (fun h => ?_) (fun h => ?_) | refine br_e (fun h => ?_) (fun h => ?_) | refine br_n (fun h => ?_) (fun h => ?_) | refine drw (by kernel_rfl) ?_ | refine chk (by kernel_rfl) ?_ | refine stop ?_)
        all_goals refine Stop.mk ?_
      all_goals try
        have hu2 : (sCount 1048576 2 r).2 = u.2 := by rw [hu]; unfold cntI cntC; rw [if_pos (by simp only [decide_eq_true_eq]; omega)]
        rw [hu2]
      all_goals
        clear hu2 hw3 h
        rw [hw4]
        clear hw4
        rw [← hu1] at hcr2 ⊢
        clear hu1 hu
        refine call_fn [0, 1] (dpairs_fn ⟨x.blocks, x.instrs, x.pairs + sumI acc + u.1, x.bytes⟩ u.1 s t hCu hcr2.2 hs ht) rfl ⟨rfl, rfl, trivial⟩ (by decide) ?_
        rintro sv H' G' ⟨rfl, q2, rfl, hqv2, hsf2, rfl⟩ -
        refine ⟨Nat.le_of_ble_eq_true rfl, ?_⟩
        replace hCu := hCu.next hsf2
        have hst : q2.2 = 0 → u.2.2 = 0 := fun h0 => Classical.byContradiction fun h9 => by
          have h8 := hqv2.zero h0
          have h7 := sPrs_st (vregs := s.regs) (regs := t.regs) (slots := t.slots) (n := u.1) h9
          rw [h8, h0] at h7
          exact h9 h7.symm
        repeat' ((fail_if_success with_reducible refine Stop.mk ?_); (conv => whnf); with_reducible first | refine br_t ?_ | refine br_f ?_ | refine br_nn ?_ | refine br_ns ?_ | refine br_not ?_ | refine br_d (fun h => ?_) (fun h => ?_) | refine br_e (fun h => ?_) (fun h => ?_) | refine br_n (fun h => ?_) (fun h => ?_) | refine drw (by kernel_rfl) ?_ | refine chk (by kernel_rfl) ?_ | refine stop ?_)
        all_goals refine Stop.mk ?_
        rw [hw2]
        refine tell_here ⟨(k + 1, T + u.1, q2, _, acc ++ [u.1]), ⟨by show k + 1 ≤ _; omega, hCu, hqv2, hnext, fun h0 => ⟨by have := hu3 (hst h0); dsimp only; omega, by rw [sumI_snoc, hsum]⟩⟩, by show s.blocks.toNat - (k + 1) < s.blocks.toNat - k; omega, ?_, rfl, ?_⟩
        · show [_, _, _, _] = [_, _, _, _]; rw [sumI_snoc, ← Int.add_assoc]; rfl
        ·
          refine ⟨?_⟩
          (conv => whnf)
          (repeat' (first | exact trivial | exact .inl rfl | exact .inr rfl | refine And.intro ?_ ?_))
    · have he := hrun.done (.inr (hqv.err (by assumption)))
      refine fin_id hE 2 rfl rfl rfl rfl ⟨rfl, q, ?_, rfl⟩
      rw [hpost, he]; rfl
  · have he := hrun.done (.inl (by omega))
    refine fin_id hE 2 rfl rfl rfl rfl ⟨rfl, q, ?_, rfl⟩
    rw [hpost, he]; rfl
/-! ### the sections -/
theorem dStep_suf (id : Int) (p : Ps) : (dStep id p).2.1 <:+ p.1 := by
  unfold dStep
  dsimp only
  refine (sBytes_suf _ _).trans ((sCount_suf _ _ _).trans ?_)
  split <;> exact sByte_suf p
theorem sumL_snoc (l : List (List Int)) (x : List Int) : sumL (l ++ [x]) = sumL l + x.length := by unfold sumL; rw [List.map_append]; exact sumI_snoc _ _
theorem dSplit_step {ids : List Int} {k : Nat} {id : Int} (h : ids[k]? = some id) (p : Ps) : dSplit (ids.drop k) p = if (dStep id p).2.2 ≠ 0 then [] else (dStep id p).1 :: dSplit (ids.drop (k + 1)) (dStep id p).2 := by
  obtain ⟨hk, rfl⟩ := List.getElem?_eq_some_iff.1 h
  rw [List.drop_eq_getElem_cons hk]
  rfl
set_option maxHeartbeats 8000000 in
theorem dsplit_fn {G : Gh} {A : Option Addr} {b : List Int} {c : Nat} (x : Cst) (hbb : isB b) (hb : SlB G A c b) (h2 : b.length ≤ 1000000000) (hx : okCst x 100000000) :
    Ct Try.prog 17 [.p 0 0, .v (.slice A b.length c)] [xO x] G fun sv H' G' =>
      ∃ vals, sv = .s 1 ∧ H' = [xO ⟨x.blocks, x.instrs, x.pairs, x.bytes + sumL (dSplit [1, 2, 3] (b, 0))⟩, .row 22 1 (dSplit [1, 2, 3] (b, 0)).length vals] ∧ kBs.Cs G' (dSplit [1, 2, 3] (b, 0)) vals := by
  obtain ⟨hx1, hx2, hx3, hx4⟩ := hx
  refine fn_of follows [] Try.func17 rfl rfl fun E hE => ?_
  unfold xO
  repeat' ((fail_if_success with_reducible refine Stop.mk ?_); (conv => whnf); with_reducible first | refine br_t ?_ | refine br_f ?_ | refine br_nn ?_ | refine br_ns ?_ | refine br_not ?_ | refine br_d (fun h => ?_) (fun h => ?_) | refine br_e (fun h => ?_) (fun h => ?_) | refine br_n (fun h => ?_) (fun h => ?_) | refine drw (by kernel_rfl) ?_ | refine chk (by kernel_rfl) ?_ | refine stop ?_)
  all_goals refine Stop.mk ?_
  refine call_fn [] (pnew_fn G A b c hbb hb (by omega)) rfl trivial (by decide) ?_
  rintro sv H' G' ⟨A1, c1, rfl, rfl, hc⟩ hg
  refine ⟨Nat.le_of_ble_eq_true rfl, ?_⟩
  clear hg hb
  repeat' ((fail_if_success with_reducible refine Stop.mk ?_); (conv => whnf); with_reducible first | refine br_t ?_ | refine br_f ?_ | refine br_nn ?_ | refine br_ns ?_ | refine br_not ?_ | refine br_d (fun h => ?_) (fun h => ?_) | refine br_e (fun h => ?_) (fun h => ?_) | refine br_n (fun h => ?_) (fun h => ?_) | refine drw (by kernel_rfl) ?_ | refine chk (by kernel_rfl) ?_ | refine stop ?_)
  all_goals refine Stop.mk ?_
  refine loop_gh (gh_birth 6 22 1 rfl) ?_
  rintro _ _ ⟨rfl, rfl⟩
  refine loop_vars follows [] (α := Nat × Gh × Ps × List (List Int) × List Value) (fun y => [(6, .s 2), (7, .v (.int .u8 ((y.1 + 1 : Nat) : Int)))])
    (fun y => [.cells 58 [.v (.int .i64 x.blocks), .v (.int .i64 x.instrs), .v (.int .i64 x.pairs), .v (.int .i64 (x.bytes + sumL y.2.2.2.1))], curL A1 b c1 y.2.2.1, .row 22 1 y.1 y.2.2.2.2]) (fun y => y.2.1)
    (fun y => y.1 ≤ 3 ∧ CurOK y.2.1 A1 c1 b y.2.2.1 ∧ kBs.Cs y.2.1 y.2.2.2.1 y.2.2.2.2 ∧ y.2.2.2.1.length = y.1 ∧ dSplit [1, 2, 3] (b, 0) = y.2.2.2.1 ++ dSplit (([1, 2, 3] : List Int).drop y.1) y.2.2.1 ∧ 0 ≤ sumL y.2.2.2.1 ∧ sumL y.2.2.2.1 ≤ (y.1 : Int) * 1000000000) (fun y => 3 - y.1) (0, G', (b, 0), [], [])
    ⟨Nat.zero_le _, hc, Kd.Cs.nil _ _, rfl, rfl, Int.le_refl _, show sumL [] ≤ ((0 : Nat) : Int) * 1000000000 from (by simp [sumL, sumI])⟩ (by show [_, _, _] = [_, _, _]; rw [show x.bytes + sumL [] = x.bytes from Int.add_zero _]; rfl) rfl ?_ ?_
  ·
    refine ⟨?_⟩
    (conv => whnf)
    (repeat' (first | exact trivial | exact .inl rfl | exact .inr rfl | refine And.intro ?_ ?_))
  clear hc
  rintro ⟨k, Gk, p, acc, vals⟩ ⟨hk, hc, hv, hvl, hsp, hs0, hs1⟩
  dsimp only at hk hc hv hvl hsp hs0 hs1 ⊢
  have hle := hc.le
  repeat' ((fail_if_success with_reducible refine Stop.mk ?_); (conv => whnf); with_reducible first | refine br_t ?_ | refine br_f ?_ | refine br_nn ?_ | refine br_ns ?_ | refine br_not ?_ | refine br_d (fun h => ?_) (fun h => ?_) | refine br_e (fun h => ?_) (fun h => ?_) | refine br_n (fun h => ?_) (fun h => ?_) | refine drw (by kernel_rfl) ?_ | refine chk (by kernel_rfl) ?_ | refine stop ?_)
  all_goals refine Stop.mk ?_
  · have hk3 : k < 3 := by omega
    have hid : ([1, 2, 3] : List Int)[k]? = some ((k + 1 : Nat) : Int) := by
      rcases k with _ | _ | _ | k
      · rfl
      · rfl
      · rfl
      · omega
    have hw2 : IntKind.u8.wrap (((k + 1 : Nat) : Int) + 1) = ((k + 1 + 1 : Nat) : Int) := by rw [IntKind.wrap_u8]; omega
    rw [dSplit_step hid] at hsp
    generalize hidn : ((k + 1 : Nat) : Int) = id at *
    refine call_fn [1] (pbyte_fn hc) rfl ⟨rfl, trivial⟩ (by decide) ?_
    rintro sv H' G' ⟨rfl, rfl, rfl⟩ -
    refine ⟨Nat.le_of_ble_eq_true rfl, ?_⟩
    obtain ⟨q, hq⟩ : ∃ q, q = if (sByte p).1 ≠ id then sFail 7 (sByte p).2 else (sByte p).2 := ⟨_, rfl⟩
    have hcq := hc.next (q := q) (by rw [hq]; split <;> exact sByte_suf p)
    have hcc := hcq.next (sCount_suf 1099511627776 1 q)
    have hcr := sCount_range (most := 1099511627776) (size := 1) hcq.isb (by decide)
    have hst : dStep id p = sBytes (sCount 1099511627776 1 q).1 (sCount 1099511627776 1 q).2 := by rw [hq]; rfl
    rw [hst] at hsp
    repeat' ((fail_if_success with_reducible refine Stop.mk ?_); (conv => whnf); with_reducible first | refine br_t ?_ | refine br_f ?_ | refine br_nn ?_ | refine br_ns ?_ | refine br_not ?_ | refine br_d (fun h => ?_) (fun h => ?_) | refine br_e (fun h => ?_) (fun h => ?_) | refine br_n (fun h => ?_) (fun h => ?_) | refine drw (by kernel_rfl) ?_ | refine chk (by kernel_rfl) ?_ | refine stop ?_)
    all_goals refine Stop.mk ?_
    all_goals try
      refine call_fn [1] (pfail_fn 7 (p := (sByte p).2)) rfl ⟨rfl, trivial⟩ (by decide) ?_
      rintro sv H' G' ⟨rfl, rfl, rfl⟩ -
      refine ⟨Nat.le_of_ble_eq_true rfl, ?_⟩
      have hq' : sFail 7 (sByte p).2 = q := by rw [hq, if_pos (by assumption)]
      rw [hq']
      repeat' ((fail_if_success with_reducible refine Stop.mk ?_); (conv => whnf); with_reducible first | refine br_t ?_ | refine br_f ?_ | refine br_nn ?_ | refine br_ns ?_ | refine br_not ?_ | refine br_d (fun h => ?_) (fun h => ?_) | refine br_e (fun h => ?_) (fun h => ?_) | refine br_n (fun h => ?_) (fun h => ?_) | refine drw (by kernel_rfl) ?_ | refine chk (by kernel_rfl) ?_ | refine stop ?_)
      all_goals refine Stop.mk ?_
    all_goals try
      have hq' : (sByte p).2 = q := by rw [hq, if_neg (by simpa using h)]
      rw [hq']
    all_goals
      refine call_fn [1] (pcount_fn 1099511627776 1 hcq (by decide) (by decide)) rfl ⟨rfl, trivial⟩ (by decide) ?_
      rintro sv H' G' ⟨rfl, rfl, rfl⟩ -
      refine ⟨Nat.le_of_ble_eq_true rfl, ?_⟩
      repeat' ((fail_if_success with_reducible refine Stop.mk ?_); (conv => whnf); with_reducible first | refine br_t ?_ | refine br_f ?_ | refine br_nn ?_ | refine br_ns ?_ | refine br_not ?_ | refine br_d (fun h => ?_) (fun h => ?_) | refine br_e (fun h => ?_) (fun h => ?_) | refine br_n (fun h => ?_) (fun h => ?_) | refine drw (by kernel_rfl) ?_ | refine chk (by kernel_rfl) ?_ | refine stop ?_)
      all_goals refine Stop.mk ?_
      refine call_fn [1] (pbytes_fn (sCount 1099511627776 1 q).1 hcc (by omega)) rfl ⟨rfl, trivial⟩ (by decide) ?_
      rintro sv H' G' ⟨⟨A', c', rfl, hs⟩, rfl⟩ hg
      refine ⟨Nat.le_of_ble_eq_true rfl, ?_⟩
      replace hcc := hcc.to hg
      replace hv := hv.to hg
      have hpl : (sBytes (sCount 1099511627776 1 q).1 (sCount 1099511627776 1 q).2).1.length ≤ b.length := by
        have h3 := hcc.le
        unfold sBytes
        split
        · exact Nat.zero_le _
        · split
          · exact Nat.zero_le _
          · split
            · exact Nat.zero_le _
            · rw [List.length_take]; omega
      have hcn := hcc.next (sBytes_suf (sCount 1099511627776 1 q).1 (sCount 1099511627776 1 q).2)
      have hpb := sBytes_isb (n := (sCount 1099511627776 1 q).1) hcc.isb
      generalize sBytes (sCount 1099511627776 1 q).1 (sCount 1099511627776 1 q).2 = w at *
      obtain ⟨part, p2⟩ := w
      dsimp only at hpl hcn hpb hsp hs ⊢
      have hw3 : IntKind.i64.wrap (x.bytes + sumL acc + (part.length : Int)) = x.bytes + sumL acc + part.length := i64_in (by omega) (by omega)
      repeat' ((fail_if_success with_reducible refine Stop.mk ?_); (conv => whnf); with_reducible first | refine br_t ?_ | refine br_f ?_ | refine br_nn ?_ | refine br_ns ?_ | refine br_not ?_ | refine br_d (fun h => ?_) (fun h => ?_) | refine br_e (fun h => ?_) (fun h => ?_) | refine br_n (fun h => ?_) (fun h => ?_) | refine drw (by kernel_rfl) ?_ | refine chk (by kernel_rfl) ?_ | refine stop ?_)
      all_goals refine Stop.mk ?_
      refine call_fn [1] (perr_fn (p := p2)) rfl ⟨rfl, trivial⟩ (by decide) ?_
      rintro sv H' G' ⟨rfl, rfl, rfl⟩ -
      refine ⟨Nat.le_of_ble_eq_true rfl, ?_⟩
      repeat' ((fail_if_success with_reducible refine Stop.mk ?_); (conv => whnf); with_reducible first | refine br_t ?_ | refine br_f ?_ | refine br_nn ?_ | refine br_ns ?_ | refine br_not ?_ | refine br_d (fun h => ?_) (fun h => ?_) | refine br_e (fun h => ?_) (fun h => ?_) | refine br_n (fun h => ?_) (fun h => ?_) | refine drw (by kernel_rfl) ?_ | refine chk (by kernel_rfl) ?_ | refine stop ?_)
      all_goals refine Stop.mk ?_
    all_goals try
      have hp2 : p2.2 ≠ 0 := by assumption
      rw [if_pos hp2, List.append_nil] at hsp
      refine fin_mk hE [0, 2] (.s 1) [xO ⟨x.blocks, x.instrs, x.pairs, x.bytes + sumL acc⟩, .row 22 1 k vals] rfl ⟨rfl, rfl, trivial⟩ rfl ?_
      rw [hsp]
      exact ⟨vals, rfl, by rw [hvl]; rfl, hv⟩
    all_goals
      have hp2 : p2.2 = 0 := by assumption
      rw [if_neg (by simp [hp2])] at hsp
      refine ⟨by simp [Value.oneCell'], ⟨by show (k + 1) * 24 ≤ _; omega, ?_⟩⟩
      repeat' ((fail_if_success with_reducible refine Stop.mk ?_); (conv => whnf); with_reducible first | refine br_t ?_ | refine br_f ?_ | refine br_nn ?_ | refine br_ns ?_ | refine br_not ?_ | refine br_d (fun h => ?_) (fun h => ?_) | refine br_e (fun h => ?_) (fun h => ?_) | refine br_n (fun h => ?_) (fun h => ?_) | refine drw (by kernel_rfl) ?_ | refine chk (by kernel_rfl) ?_ | refine stop ?_)
      all_goals refine Stop.mk ?_
      rw [hw2]
      refine tell_gc hE [0, 1, 2] rfl rfl ?_
      (conv => whnf)
      refine tell_here ⟨(k + 1, _, p2, acc ++ [part], vals ++ [.slice A' part.length c']), ⟨by show k + 1 ≤ 3; omega, hcn, hv.snoc (R_kBs hs hpb), by simp [hvl], by rw [hsp, List.append_assoc]; rfl, by rw [sumL_snoc]; omega, by rw [sumL_snoc]; dsimp only; omega⟩, by show 3 - (k + 1) < 3 - k; omega, ?_, rfl, ?_⟩
      · show [_, _, _] = [_, _, _]
        rw [sumL_snoc, ← Int.add_assoc, hw3]; rfl
      ·
        refine ⟨?_⟩
        (conv => whnf)
        (repeat' (first | exact trivial | exact .inl rfl | exact .inr rfl | refine And.intro ?_ ?_))
  · have hk3 : k = 3 := by omega
    subst hk3
    rw [show dSplit (([1, 2, 3] : List Int).drop 3) p = [] from rfl, List.append_nil] at hsp
    repeat' ((fail_if_success with_reducible refine Stop.mk ?_); (conv => whnf); with_reducible first | refine br_t ?_ | refine br_f ?_ | refine br_nn ?_ | refine br_ns ?_ | refine br_not ?_ | refine br_d (fun h => ?_) (fun h => ?_) | refine br_e (fun h => ?_) (fun h => ?_) | refine br_n (fun h => ?_) (fun h => ?_) | refine drw (by kernel_rfl) ?_ | refine chk (by kernel_rfl) ?_ | refine stop ?_)
    all_goals refine Stop.mk ?_
    refine fin_mk hE [0, 2] (.s 1) [xO ⟨x.blocks, x.instrs, x.pairs, x.bytes + sumL acc⟩, .row 22 1 3 vals] rfl ⟨rfl, rfl, trivial⟩ rfl ?_
    rw [hsp]
    exact ⟨vals, rfl, by rw [hvl]; rfl, hv⟩
end Go.Proofs.Ytkhajngpcgmpnaa.Cu
