/- The cost of decoding: a header that says too much. -/
import Derived.Test.YtkhajngpcgmpnaaDc8
import Derived.Test.YtkhajngpcgmpnaaCub
import Derived.Test.YtkhajngpcgmpnaaSe7
import Derived.Test.YtkhajngpcgmpnaaSXP
namespace Go.Proofs.Ytkhajngpcgmpnaa.Cu
open Go Go.SX Go.Proofs.Ytkhajngpcgmpnaa.VT
set_option maxRecDepth 100000
set_option linter.unusedVariables false
set_option linter.unusedSimpArgs false

/-! ### a header that says too much -/
theorem len_put_le (n : Nat) : (putB n).length ≤ 10 := putB_len n
theorem sUint_put {most : Int} (n : Nat) (h1 : n < 18446744073709551616) (h2 : (n : Int) ≤ most) (w : List Int) : sUint most (putB n ++ w, 0) = ((n : Int), (w, 0)) := by
  have h := (Cod.uint (sh := fun e => e ≠ 0) (by decide) (fun _ h => h) most).rt (n : Int) w ⟨by omega, by omega, h2⟩
  rwa [Int.toNat_natCast] at h
theorem cntB_err {p : Ps} (h : p.2 ≠ 0) : (cntB p).1 = 0 ∧ (cntB p).2.2 ≠ 0 := by
  refine ⟨by unfold cntB cntC; rw [sCount_err h], by rw [cntB_st h]; exact h⟩
theorem dBlks0 (regs : Int) (p : Ps) : dBlks regs 0 p = ([], p) := rfl
theorem dMBlks0 (regs slots : Int) (p : Ps) : dMBlks regs slots 0 p = ([], p) := rfl
/-- Nothing is counted behind an error. -/
theorem dFn_err {p : Ps} (h : (cntB (sHead p).2).1 = 0) : (dFn p).1.1.blocks = 0 ∧ (dFn p).1.2 = [] ∧ (dFn p).2 = (cntB (sHead p).2).2 := by
  have e : dFn p = ((⟨(sHead p).1.1, (sHead p).1.2, 0, (cntB (sHead p).2).1⟩, (dBlks (sHead p).1.2 (cntB (sHead p).2).1 (cntB (sHead p).2).2).1), (dBlks (sHead p).1.2 (cntB (sHead p).2).1 (cntB (sHead p).2).2).2) := rfl
  rw [e, h, dBlks0]
  exact ⟨rfl, rfl, rfl⟩
theorem dMFn_nil : (dMFn ([], 0)).1.1.blocks = 0 ∧ (dMFn ([], 0)).1.2 = [] ∧ (dMFn ([], 0)).2.2 ≠ 0 := by decide +kernel
def hugeS (a r n : Nat) (l : List Int) : List Int := putB a ++ putB r ++ putB n ++ l
def hugeB (a r n : Nat) (l : List Int) : List Int := [82, 67, 1, 1] ++ putB (hugeS a r n l).length ++ hugeS a r n l ++ [2, 0, 3, 0]
theorem huge_fn1 {a r n : Nat} {l : List Int} (ha : a ≤ 255) (hr : r ≤ 255) (hn : n < 18446744073709551616) (hl : l.length ≤ 500) :
    if a > r ∨ n > l.length / 3 then (dFn (hugeS a r n l, 0)).1.1.blocks = 0 ∧ (dFn (hugeS a r n l, 0)).1.2 = [] ∧ (dFn (hugeS a r n l, 0)).2.2 ≠ 0 else (dFn (hugeS a r n l, 0)).1.1.blocks = n := by
  have h1 : sUint 1048576 (hugeS a r n l, 0) = ((a : Int), (putB r ++ (putB n ++ l), 0)) := by
    unfold hugeS; rw [List.append_assoc, List.append_assoc]; exact sUint_put a (by omega) (by omega) _
  have h2 : sUint 1048576 (putB r ++ (putB n ++ l), 0) = ((r : Int), (putB n ++ l, 0)) := sUint_put r (by omega) (by omega) _
  have h3 : sHead (hugeS a r n l, 0) = (((a : Int), (r : Int)), if (a : Int) > r then sFail 9 (putB n ++ l, 0) else (putB n ++ l, 0)) := by
    unfold sHead; dsimp only; rw [h1]; dsimp only; rw [h2]
  by_cases har : a > r
  · rw [if_pos (.inl har)]
    have h4 : (sHead (hugeS a r n l, 0)).2.2 ≠ 0 := by rw [h3, if_pos (by omega)]; exact sFail_ne (by decide)
    have h5 := cntB_err h4
    obtain ⟨k1, k2, k3⟩ := dFn_err h5.1
    exact ⟨k1, k2, by rw [k3]; exact h5.2⟩
  · have h4 : (sHead (hugeS a r n l, 0)).2 = (putB n ++ l, 0) := by rw [h3, if_neg (by omega)]
    have h5 := sCount_put (most := 1048576) (size := 3) (by decide) (by decide) n hn l
    by_cases hnl : n > l.length / 3
    · rw [if_pos (.inr hnl)]
      have h6 : (cntB (sHead (hugeS a r n l, 0)).2).1 = 0 ∧ (cntB (sHead (hugeS a r n l, 0)).2).2.2 ≠ 0 := by
        rw [h4]
        have h7 : ∃ e : Int, e ≠ 0 ∧ sCount 1048576 3 (putB n ++ l, 0) = (0, (putB n ++ l, e)) := by
          rw [h5]
          split
          · rw [if_neg (by omega)]; exact ⟨1, by decide, rfl⟩
          · exact ⟨6, by decide, rfl⟩
        obtain ⟨e, he, h8⟩ := h7
        unfold cntB cntC
        rw [h8]
        dsimp only
        exact ⟨rfl, by rw [if_neg (by decide)]; exact sFail_ne (by decide)⟩
      obtain ⟨k1, k2, k3⟩ := dFn_err h6.1
      exact ⟨k1, k2, by rw [k3]; exact h6.2⟩
    · rw [if_neg (by omega)]
      have h6 : (cntB (sHead (hugeS a r n l, 0)).2).1 = n := by
        rw [h4]
        rw [if_pos (by omega), if_pos (by omega)] at h5
        unfold cntB cntC
        rw [h5]
      exact h6
theorem isB_huge {a r n : Nat} {l : List Int} (hb : isB l) (ha : a ≤ 255) (hr : r ≤ 255) (hn : n < 18446744073709551616) : isB (hugeS a r n l) := by
  unfold hugeS
  exact isB_app' (isB_app' (isB_app' (isB_put a (by omega)) (isB_put r (by omega))) (isB_put n hn)) hb
theorem huge_len {a r n : Nat} {l : List Int} (hl : l.length ≤ 500) : (hugeS a r n l).length ≤ 530 := by
  have h1 := len_put_le a
  have h2 := len_put_le r
  have h3 := len_put_le n
  unfold hugeS
  simp only [List.length_append]
  omega
/-- What the law says. -/
theorem huge_law {a r n : Nat} {l : List Int} (hb : isB l) (ha : a ≤ 255) (hr : r ≤ 255) (hn : n < 18446744073709551616) (hl : l.length ≤ 500) :
    if a > r ∨ n > l.length / 3 then (dOf (hugeB a r n l)).blocks = 0 ∧ (dOf (hugeB a r n l)).instrs = 0 ∧ (dOf (hugeB a r n l)).pairs = 0 else (dOf (hugeB a r n l)).blocks = n ∧ (dOf (hugeB a r n l)).pairs = 0 := by
  have hlen := huge_len (a := a) (r := r) (n := n) hl
  have hbS := isB_huge hb ha hr hn
  have hlaw := huge_fn1 (l := l) ha hr hn hl
  have hd : dOf (hugeB a r n l) = dBody (packB [1, 2, 3] [hugeS a r n l, [], []]) := by
    have e1 : (hugeB a r n l).take 3 = [82, 67, 1] := rfl
    have e2 : (hugeB a r n l).drop 3 = packB [1, 2, 3] [hugeS a r n l, [], []] := by
      show [1] ++ putB (hugeS a r n l).length ++ hugeS a r n l ++ [2, 0, 3, 0] = _
      simp [packB]
      decide
    unfold dOf
    rw [if_pos e1, e2]
  have hg : splitR [1, 2, 3] (packB [1, 2, 3] [hugeS a r n l, [], []]) = ([hugeS a r n l, [], []], 0) := by
    refine splitR_good rfl (by decide) ?_ ?_
    · intro c hc
      simp only [List.mem_cons, List.not_mem_nil, or_false] at hc
      rcases hc with rfl | rfl | rfl
      · exact ⟨hbS, by omega⟩
      · exact ⟨by decide, by decide⟩
      · exact ⟨by decide, by decide⟩
    · have h1 := len_put_le (hugeS a r n l).length
      have h0 := len_put_le 0
      simp only [packB, List.length_cons, List.length_append, List.length_nil]
      omega
  have hs : (splitS [1, 2, 3] (packB [1, 2, 3] [hugeS a r n l, [], []], 0)).1 = [hugeS a r n l, [], []] := congrArg Prod.fst hg
  have hf : dFirst (packB [1, 2, 3] [hugeS a r n l, [], []]) = dFn (hugeS a r n l, 0) := by unfold dFirst; rw [hs]; rfl
  have hse : dSecond (packB [1, 2, 3] [hugeS a r n l, [], []]) = dMFn ([], 0) := by unfold dSecond; rw [hs]; rfl
  obtain ⟨m1, m2, m3⟩ := dMFn_nil
  rw [hd]
  have hse2 : (sEnd (dMFn ([], 0)).2).2 ≠ 0 := by rw [sEnd_err m3]; exact m3
  by_cases hc : a > r ∨ n > l.length / 3
  · rw [if_pos hc] at hlaw ⊢
    obtain ⟨k1, k2, k3⟩ := hlaw
    unfold dBody
    rw [if_neg (by rw [hg]; simp), hf, hse]
    dsimp only
    rw [if_pos (by rw [sEnd_err k3]; exact k3)]
    dsimp only
    rw [k1, k2]
    exact ⟨rfl, rfl, rfl⟩
  · rw [if_neg hc] at hlaw ⊢
    unfold dBody
    rw [if_neg (by rw [hg]; simp), hf, hse]
    dsimp only
    split
    · exact ⟨hlaw, rfl⟩
    · rw [if_pos (.inl hse2)]
      dsimp only
      rw [m1, hlaw]
      exact ⟨Int.add_zero _, rfl⟩
set_option maxHeartbeats 8000000 in
theorem dhuge_fn {G : Gh} {A : Option Addr} {l : List Int} {c : Nat} (a r n : Int) (hbb : isB l) (hb : SlB G A c l) (ha : 0 ≤ a ∧ a ≤ 255) (hr : 0 ≤ r ∧ r ≤ 255) (hn : 0 ≤ n ∧ n < 18446744073709551616) :
    Ct Try.prog 6 [.v (.int .u8 a), .v (.int .u8 r), .v (.int .u64 n), .v (.slice A l.length c)] [] G fun sv H' G' => sv = .v (.bool true) ∧ H' = [] := by
  refine fn_of follows [] Try.func6 rfl rfl fun E hE => ?_
  repeat' ((fail_if_success with_reducible refine Stop.mk ?_); (conv => whnf); with_reducible first | refine br_t ?_ | refine br_f ?_ | refine br_nn ?_ | refine br_ns ?_ | refine br_not ?_ | refine br_d (fun h => ?_) (fun h => ?_) | refine br_e (fun h => ?_) (fun h => ?_) | refine br_n (fun h => ?_) (fun h => ?_) | refine drw_fast (by kernel_rfl) ?_ | refine chk (by kernel_rfl) ?_ | refine stop ?_)
  all_goals refine Stop.mk ?_
  refine call_fn [] (awake21_fn _) rfl trivial (by decide) ?_
  rintro sv H' G' ⟨rfl, rfl⟩ hg
  refine ⟨Nat.le_of_ble_eq_true rfl, ?_⟩
  replace hb := Sl.to hg hb
  clear hg
  repeat' ((fail_if_success with_reducible refine Stop.mk ?_); (conv => whnf); with_reducible first | refine br_t ?_ | refine br_f ?_ | refine br_nn ?_ | refine br_ns ?_ | refine br_not ?_ | refine br_d (fun h => ?_) (fun h => ?_) | refine br_e (fun h => ?_) (fun h => ?_) | refine br_n (fun h => ?_) (fun h => ?_) | refine br_b (fun h => ?_) (fun h => ?_) | refine drw_fast (by kernel_rfl) ?_ | refine chk (by kernel_rfl) ?_ | refine stop ?_)
  all_goals refine Stop.mk ?_
  ·
    refine call_fn [] (awake21_fn _) rfl trivial (by decide) ?_
    rintro sv H' G' ⟨rfl, rfl⟩ -
    refine ⟨Nat.le_of_ble_eq_true rfl, ?_⟩
    repeat' ((fail_if_success with_reducible refine Stop.mk ?_); (conv => whnf); with_reducible first | refine br_t ?_ | refine br_f ?_ | refine br_nn ?_ | refine br_ns ?_ | refine br_not ?_ | refine br_d (fun h => ?_) (fun h => ?_) | refine br_e (fun h => ?_) (fun h => ?_) | refine br_n (fun h => ?_) (fun h => ?_) | refine drw_fast (by kernel_rfl) ?_ | refine chk (by kernel_rfl) ?_ | refine stop ?_)
    all_goals refine Stop.mk ?_
    exact fin_id hE 0 rfl rfl rfl rfl ⟨rfl, rfl⟩
  have hl : l.length ≤ 500 := by omega
  obtain ⟨a, rfl⟩ : ∃ k : Nat, a = k := ⟨a.toNat, by omega⟩
  obtain ⟨r, rfl⟩ : ∃ k : Nat, r = k := ⟨r.toNat, by omega⟩
  obtain ⟨n, rfl⟩ : ∃ k : Nat, n = k := ⟨n.toNat, by omega⟩
  have wa : IntKind.u64.wrap (a : Int) = a := u64_in (by omega) (by omega)
  have wr : IntKind.u64.wrap (r : Int) = r := u64_in (by omega) (by omega)
  have pa := len_put_le a
  have pr := len_put_le r
  have pn := len_put_le n
  rw [wa]
  refine call_fn [] (rput_fn _ a (by omega)) rfl trivial (by decide) ?_
  rintro sv H' G' ⟨rfl, rfl, rfl⟩ -
  refine ⟨Nat.le_of_ble_eq_true rfl, ?_⟩
  repeat' ((fail_if_success with_reducible refine Stop.mk ?_); (conv => whnf); with_reducible first | refine br_t ?_ | refine br_f ?_ | refine br_nn ?_ | refine br_ns ?_ | refine br_not ?_ | refine br_d (fun h => ?_) (fun h => ?_) | refine br_e (fun h => ?_) (fun h => ?_) | refine br_n (fun h => ?_) (fun h => ?_) | refine drw_fast (by kernel_rfl) ?_ | refine chk (by kernel_rfl) ?_ | refine stop ?_)
  all_goals refine Stop.mk ?_
  rw [wr]
  refine call_fn [] (rput_fn _ r (by omega)) rfl trivial (by decide) ?_
  rintro sv H' G' ⟨rfl, rfl, rfl⟩ -
  refine ⟨Nat.le_of_ble_eq_true rfl, ?_⟩
  repeat' ((fail_if_success with_reducible refine Stop.mk ?_); (conv => whnf); with_reducible first | refine br_t ?_ | refine br_f ?_ | refine br_nn ?_ | refine br_ns ?_ | refine br_not ?_ | refine br_d (fun h => ?_) (fun h => ?_) | refine br_e (fun h => ?_) (fun h => ?_) | refine br_n (fun h => ?_) (fun h => ?_) | refine drw_fast (by kernel_rfl) ?_ | refine chk (by kernel_rfl) ?_ | refine stop ?_)
  all_goals refine Stop.mk ?_
  refine call_fz 0 rfl (byts_one _) (enters_of Try.func14 rfl rfl) fun Ax cx Gx hgx hsx => ?_
  (conv => whnf)
  refine call_fz 1 rfl (byts_one _) (enters_of Try.func14 rfl rfl) fun Ay cy Gy hgy hsy => ?_
  (conv => whnf)
  have hx := SlB.of (putB a) (Sl.to hgy hsx) rfl rfl rfl
  have hy := SlB.of (putB r) hsy rfl rfl rfl
  replace hb := Sl.to hgy (Sl.to hgx hb)
  refine call_fn [] (radd_fn _ Ax Ay cx cy (putB a) (putB r) hx hy (by omega)) rfl trivial (by decide) ?_
  rintro sv H' G' ⟨rfl, rfl, rfl⟩ -
  refine ⟨Nat.le_of_ble_eq_true rfl, ?_⟩
  clear hx hy hsx hsy hgx hgy
  obtain ⟨s1, hs1⟩ : ∃ s, s = putB a ++ putB r := ⟨_, rfl⟩
  have hs1l : s1.length ≤ 20 := by rw [hs1, List.length_append]; omega
  rw [← hs1]
  repeat' ((fail_if_success with_reducible refine Stop.mk ?_); (conv => whnf); with_reducible first | refine br_t ?_ | refine br_f ?_ | refine br_nn ?_ | refine br_ns ?_ | refine br_not ?_ | refine br_d (fun h => ?_) (fun h => ?_) | refine br_e (fun h => ?_) (fun h => ?_) | refine br_n (fun h => ?_) (fun h => ?_) | refine drw_fast (by kernel_rfl) ?_ | refine chk (by kernel_rfl) ?_ | refine stop ?_)
  all_goals refine Stop.mk ?_
  refine call_fn [] (rput_fn _ n (by omega)) rfl trivial (by decide) ?_
  rintro sv H' G' ⟨rfl, rfl, rfl⟩ -
  refine ⟨Nat.le_of_ble_eq_true rfl, ?_⟩
  repeat' ((fail_if_success with_reducible refine Stop.mk ?_); (conv => whnf); with_reducible first | refine br_t ?_ | refine br_f ?_ | refine br_nn ?_ | refine br_ns ?_ | refine br_not ?_ | refine br_d (fun h => ?_) (fun h => ?_) | refine br_e (fun h => ?_) (fun h => ?_) | refine br_n (fun h => ?_) (fun h => ?_) | refine drw_fast (by kernel_rfl) ?_ | refine chk (by kernel_rfl) ?_ | refine stop ?_)
  all_goals refine Stop.mk ?_
  refine ⟨byts_one _, ⟨by show (s1.length + (putB n).length) * 1 ≤ _; omega, ?_⟩⟩
  repeat' ((fail_if_success with_reducible refine Stop.mk ?_); (conv => whnf); with_reducible first | refine br_t ?_ | refine br_f ?_ | refine br_nn ?_ | refine br_ns ?_ | refine br_not ?_ | refine br_d (fun h => ?_) (fun h => ?_) | refine br_e (fun h => ?_) (fun h => ?_) | refine br_n (fun h => ?_) (fun h => ?_) | refine drw_fast (by kernel_rfl) ?_ | refine chk (by kernel_rfl) ?_ | refine stop ?_)
  all_goals refine Stop.mk ?_
  refine ⟨_, hb, ⟨by show (s1.length + (putB n).length + l.length) * 1 ≤ _; omega, ?_⟩⟩
  repeat' ((fail_if_success with_reducible refine Stop.mk ?_); (conv => whnf); with_reducible first | refine br_t ?_ | refine br_f ?_ | refine br_nn ?_ | refine br_ns ?_ | refine br_not ?_ | refine br_d (fun h => ?_) (fun h => ?_) | refine br_e (fun h => ?_) (fun h => ?_) | refine br_n (fun h => ?_) (fun h => ?_) | refine drw_fast (by kernel_rfl) ?_ | refine chk (by kernel_rfl) ?_ | refine stop ?_)
  all_goals refine Stop.mk ?_
  obtain ⟨S, hS⟩ : ∃ S, S = hugeS a r n l := ⟨_, rfl⟩
  have hS2 : S = s1 ++ putB n ++ l := by rw [hS, hs1]; rfl
  have hSl : S.length ≤ 530 := by rw [hS]; exact huge_len hl
  have e1 : byts s1 ++ byts (putB n) ++ byts l = byts S := by rw [hS2, byts_app, byts_app]
  have e2 : s1.length + (putB n).length + l.length = S.length := by rw [hS2, List.length_append, List.length_append]
  rw [e1, e2]
  clear e1 e2 hs1 hs1l
  rw [u64_in (n := (S.length : Int)) (by omega) (by omega)]
  have pS := len_put_le S.length
  refine call_fn [] (rput_fn _ S.length (by omega)) rfl trivial (by decide) ?_
  rintro sv H' G' ⟨rfl, rfl, rfl⟩ -
  refine ⟨Nat.le_of_ble_eq_true rfl, ?_⟩
  repeat' ((fail_if_success with_reducible refine Stop.mk ?_); (conv => whnf); with_reducible first | refine br_t ?_ | refine br_f ?_ | refine br_nn ?_ | refine br_ns ?_ | refine br_not ?_ | refine br_d (fun h => ?_) (fun h => ?_) | refine br_e (fun h => ?_) (fun h => ?_) | refine br_n (fun h => ?_) (fun h => ?_) | refine drw_fast (by kernel_rfl) ?_ | refine chk (by kernel_rfl) ?_ | refine stop ?_)
  all_goals refine Stop.mk ?_
  refine ⟨byts_one _, ⟨by show (4 + (putB S.length).length) * 1 ≤ _; omega, ?_⟩⟩
  repeat' ((fail_if_success with_reducible refine Stop.mk ?_); (conv => whnf); with_reducible first | refine br_t ?_ | refine br_f ?_ | refine br_nn ?_ | refine br_ns ?_ | refine br_not ?_ | refine br_d (fun h => ?_) (fun h => ?_) | refine br_e (fun h => ?_) (fun h => ?_) | refine br_n (fun h => ?_) (fun h => ?_) | refine drw_fast (by kernel_rfl) ?_ | refine chk (by kernel_rfl) ?_ | refine stop ?_)
  all_goals refine Stop.mk ?_
  refine ⟨byts_one _, ⟨by show (4 + (putB S.length).length + S.length) * 1 ≤ _; omega, ?_⟩⟩
  repeat' ((fail_if_success with_reducible refine Stop.mk ?_); (conv => whnf); with_reducible first | refine br_t ?_ | refine br_f ?_ | refine br_nn ?_ | refine br_ns ?_ | refine br_not ?_ | refine br_d (fun h => ?_) (fun h => ?_) | refine br_e (fun h => ?_) (fun h => ?_) | refine br_n (fun h => ?_) (fun h => ?_) | refine drw_fast (by kernel_rfl) ?_ | refine chk (by kernel_rfl) ?_ | refine stop ?_)
  all_goals refine Stop.mk ?_
  refine ⟨by simp [Value.oneCell'], ⟨by show (4 + (putB S.length).length + S.length + 4) * 1 ≤ _; omega, ?_⟩⟩
  repeat' ((fail_if_success with_reducible refine Stop.mk ?_); (conv => whnf); with_reducible first | refine br_t ?_ | refine br_f ?_ | refine br_nn ?_ | refine br_ns ?_ | refine br_not ?_ | refine br_d (fun h => ?_) (fun h => ?_) | refine br_e (fun h => ?_) (fun h => ?_) | refine br_n (fun h => ?_) (fun h => ?_) | refine drw_fast (by kernel_rfl) ?_ | refine chk (by kernel_rfl) ?_ | refine stop ?_)
  all_goals refine Stop.mk ?_
  obtain ⟨B, hB⟩ : ∃ B, B = hugeB a r n l := ⟨_, rfl⟩
  have hB2 : B = [82, 67, 1, 1] ++ putB S.length ++ S ++ [2, 0, 3, 0] := by rw [hB, hS]; rfl
  have hBb : isB B := by
    rw [hB2, hS]
    exact isB_app' (isB_app' (isB_app' (by decide) (isB_put _ (by rw [← hS]; omega))) (isB_huge hbb (by omega) (by omega) (by omega))) (by decide)
  have e3 : [Value.int IntKind.u8 82, Value.int IntKind.u8 67, Value.int IntKind.u8 1, Value.int IntKind.u8 1] ++ byts (putB S.length) ++ byts S ++ [Value.int IntKind.u8 2, Value.int IntKind.u8 0, Value.int IntKind.u8 3, Value.int IntKind.u8 0] = byts B := by
    rw [hB2, byts_app, byts_app, byts_app]; rfl
  have e4 : 4 + (putB S.length).length + S.length + 4 = B.length := by rw [hB2]; simp only [List.length_append, List.length_cons, List.length_nil]
  rw [e3, e4]
  have hBl : B.length ≤ 1000 := by omega
  clear e3 e4
  refine call_fz 4 rfl (byts_one _) (enters_of Try.func9 rfl rfl) fun Ab cb Gb hgb hsb => ?_
  (conv => whnf)
  have hbB := SlB.of B hsb rfl rfl rfl
  refine call_fn [] (dof_fn hBb hbB (by omega)) rfl trivial (by decide) ?_
  rintro sv H' G' ⟨rfl, rfl⟩ -
  refine ⟨Nat.le_of_ble_eq_true rfl, ?_⟩
  have hlaw := huge_law (a := a) (r := r) (n := n) hbb (by omega) (by omega) (by omega) hl
  rw [← hB] at hlaw
  clear hbB hsb hgb hB hB2 hBb hBl hS hS2 hSl pS hb
  generalize dOf B = x at *
  obtain ⟨x1, x2, x3, x4⟩ := x
  dsimp only at hlaw
  rw [show (Cst.mk x1 x2 x3 x4).sv = .agg [.v (.int .i64 x1), .v (.int .i64 x2), .v (.int .i64 x3), .v (.int .i64 x4)] from rfl]
  have w1 : IntKind.u64.wrap (IntKind.i64.wrap ((l.length : Int).tdiv 3)) = (l.length : Int) / 3 := by
    rw [Int.tdiv_eq_ediv_of_nonneg (by omega), i64_in (by omega) (by omega), u64_in (by omega) (by omega)]
  have hl2 : (a > r ∨ n > l.length / 3) → x1 = 0 ∧ x2 = 0 ∧ x3 = 0 := fun hc => by rw [if_pos hc] at hlaw; exact hlaw
  have hl3 : ¬ (a > r ∨ n > l.length / 3) → x1 = n ∧ x3 = 0 := fun hc => by rw [if_neg hc] at hlaw; exact hlaw
  have hw : n ≤ 166 → IntKind.i64.wrap (n : Int) = n := fun h9 => i64_in (by omega) (by omega)
  clear hlaw
  repeat' ((fail_if_success with_reducible refine Stop.mk ?_); (conv => whnf); with_reducible first | refine br_t ?_ | refine br_f ?_ | refine br_nn ?_ | refine br_ns ?_ | refine br_not ?_ | refine br_d (fun h => ?_) (fun h => ?_) | refine br_e (fun h => ?_) (fun h => ?_) | refine br_n (fun h => ?_) (fun h => ?_) | refine drw_fast (by kernel_rfl) ?_ | refine chk (by kernel_rfl) ?_ | refine stop ?_)
  all_goals refine Stop.mk ?_
  all_goals try (exfalso; omega)
  all_goals
    refine fin_id hE 0 rfl rfl rfl rfl ⟨congrArg (fun e => SV.v (.bool e)) ?_, rfl⟩
    exact beq_iff_eq.2 (by omega)
end Go.Proofs.Ytkhajngpcgmpnaa.Cu
