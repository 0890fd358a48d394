/- The cost of decoding: what Of comes to. -/
import Derived.Test.YtkhajngpcgmpnaaDcL
import Derived.Test.YtkhajngpcgmpnaaSe5
namespace Go.Proofs.Ytkhajngpcgmpnaa.Cu
open Go Go.SX Go.Proofs.Ytkhajngpcgmpnaa.VT
set_option maxRecDepth 100000
set_option linter.unusedVariables false
set_option linter.unusedSimpArgs false

theorem dStep_of {id : Int} {p : Ps} (hb : isB p.1) (hl : p.1.length ≤ 1000000000) (h : (stepS id p).2.2 = 0) : dStep id p = stepS id p := by
  obtain ⟨l0, e⟩ := p
  dsimp only at hb hl
  have he : e = 0 := Classical.byContradiction fun h9 => by rw [(step_err (id := id) (p := (l0, e)) h9).2.2] at h; exact h9 h
  subst he
  cases l0 with
  | nil => rw [stepS_nil] at h; exact absurd h (by simp)
  | cons x l =>
    have hx : x = id := Classical.byContradiction fun h9 => by rw [stepS_ne h9] at h; exact absurd h (by simp)
    subst hx
    have hbl : isB l := fun y hy => hb y (List.mem_cons_of_mem _ hy)
    simp only [List.length_cons] at hl
    rcases vdec_form hbl with ⟨e, he, hv⟩ | ⟨n, m, hv, _⟩
    · have he' : (vdec 0 l).2.2 ≠ 0 := by rw [hv]; dsimp only; omega
      rw [stepS_get hbl he'] at h
      exact absurd h he'
    · rcases Nat.lt_or_ge (l.drop m).length n with hn | hn
      · rw [stepS_short hbl hv hn] at h; exact absurd h (by simp)
      · have hll : (l.drop m).length ≤ l.length := by rw [List.length_drop]; omega
        rw [stepS_ok hbl hv hn (by omega)]
        have hc : sCount 1099511627776 1 (l, 0) = ((n : Int), (l.drop m, 0)) := by
          have hw : whyC 1099511627776 1 (l.length : Int) (vdec 0 l) = 0 := by
            rw [hv]
            unfold whyC
            dsimp only
            rw [List.length_drop] at hn
            rw [if_neg (by decide), if_neg (by omega), if_neg (by omega)]
          unfold sCount resC
          rw [if_neg (show ¬ ((0 : Int) ≠ 0) by decide)]
          dsimp only
          rw [if_neg (show ¬ ((1099511627776 : Int) < 0 ∨ (1 : Int) < 0) by omega), hw, hv]
          simp
        have hs : sByte (x :: l, 0) = (x, (l, 0)) := by unfold sByte; simp
        unfold dStep
        dsimp only
        rw [hs]
        dsimp only
        rw [if_neg (show ¬ x ≠ x by simp), hc]
        dsimp only
        unfold sBytes
        simp only [ne_eq, not_true_eq_false, if_false]
        rw [if_neg (by omega), if_neg (by omega), Int.toNat_natCast]
theorem dSplit_of : ∀ (ids : List Int) (p : Ps), isB p.1 → p.1.length ≤ 1000000000 → (splitS ids p).2.2 = 0 → dSplit ids p = (splitS ids p).1
  | [], p, _, _, _ => rfl
  | id :: ids, p, hb, hl, h => by
    have h1 : (stepS id p).2.2 = 0 := Classical.byContradiction fun h9 => by
      have h8 : (splitS (id :: ids) p).2 = (splitS ids (stepS id p).2).2 := rfl
      rw [h8, splitS_err ids _ h9] at h
      exact h9 h
    have h2 := dStep_of hb hl h1
    have hs := stepS_suf id p
    have ih := dSplit_of ids (stepS id p).2 (fun y hy => hb y (hs.subset hy)) (Nat.le_trans hs.length_le hl) h
    show (if (dStep id p).2.2 ≠ 0 then [] else (dStep id p).1 :: dSplit ids (dStep id p).2) = _
    rw [h2, if_neg (by simp [h1]), ih]
    rfl
theorem sEnd_err {p : Ps} (h : p.2 ≠ 0) : sEnd p = p := by
  unfold sEnd sLeft
  rw [if_neg h]
  simp
theorem splitR_err0 {ids b : List Int} (h : (splitR ids b).2 = 0) : (splitS ids (b, 0)).2.2 = 0 := Classical.byContradiction fun h9 => by
  unfold splitR at h
  dsimp only at h
  rw [sEnd_err h9] at h
  exact h9 h
/-- The sections, where Split takes them. -/
theorem split3 {b : List Int} (hb : isB b) (hl : b.length ≤ 1000000000) (h : (splitR [1, 2, 3] b).2 = 0) : ∃ x y z, dSplit [1, 2, 3] (b, 0) = [x, y, z] ∧ (splitS [1, 2, 3] (b, 0)).1 = [x, y, z] :=
  ⟨_, _, _, by rw [dSplit_of _ _ hb hl (splitR_err0 h)]; rfl, rfl⟩
theorem str3 {b : List Int} (hb : isB b) (h3 : 3 ≤ b.length) : ((strOfNums (b.take 3)).toList == ({ data := #[82, 67, 1] } : ByteArray).toList) = decide (b.take 3 = [82, 67, 1]) := by
  refine bdec ?_
  rw [beq_iff_eq, ByteArray.toList_eq, ByteArray.toList_eq, strOfNums_data]
  match b, hb, h3 with
  | x :: y :: z :: l, hb, _ =>
    have hx := hb x (by simp)
    have hy := hb y (by simp)
    have hz := hb z (by simp)
    simp only [List.take_succ_cons, List.take_zero, List.map_cons, List.map_nil, List.cons.injEq, and_true]
    have key : ∀ (a : Int) (n : Nat), 0 ≤ a → a ≤ 255 → n < 256 → (UInt8.ofNat a.toNat = UInt8.ofNat n ↔ a = n) := by
      intro a n h1 h2 h3
      rw [← UInt8.toNat_inj]
      simp only [UInt8.toNat_ofNat']
      omega
    have k1 := key x 82 hx.1 hx.2 (by decide)
    have k2 := key y 67 hy.1 hy.2 (by decide)
    have k3 := key z 1 hz.1 hz.2 (by decide)
    exact ⟨fun ⟨a, b, c⟩ => ⟨k1.1 a, k2.1 b, k3.1 c⟩, fun ⟨a, b, c⟩ => ⟨k1.2 a, k2.2 b, k3.2 c⟩⟩
theorem dFn_suf (l : List Int) : (dFn (l, 0)).2.1 <:+ l := (rep_suf (f := sBlkN _ _) (fun t p => sBlkF_suf _ _ t p) _ _ _).trans ((cntC_suf _ _ _ _ _).trans (sHead_suf (l, 0)))
theorem dMFn_suf (l : List Int) : (dMFn (l, 0)).2.1 <:+ l := (rep_suf (f := sMBlkN _ _ _) (fun t p => sMBlkF_suf _ _ _ t p) _ _ _).trans ((cntC_suf _ _ _ _ _).trans (sMHead_suf (l, 0)))
set_option maxHeartbeats 8000000 in
theorem dof_fn {G : Gh} {A : Option Addr} {b : List Int} {c : Nat} (hbb : isB b) (hb : SlB G A c b) (h2 : b.length ≤ 1000000) :
    Ct Try.prog 9 [.v (.slice A b.length c)] [] G fun sv H' G' => sv = (dOf b).sv ∧ H' = [] := by
  refine fn_of follows [(18, (.cons 0 [] (.cons 1 [] (.cons 2 [] (.cons 4 [] (.cons 5 [] (.cons 3 [2] (.cons 6 [2, 4, 5] .nil))))))))] Try.func9 rfl rfl fun E hE => ?_
  repeat' ((fail_if_success with_reducible refine Stop.mk ?_); (conv => whnf); with_reducible first | refine br_t ?_ | refine br_f ?_ | refine br_nn ?_ | refine br_ns ?_ | refine br_not ?_ | refine br_d (fun h => ?_) (fun h => ?_) | refine br_e (fun h => ?_) (fun h => ?_) | refine br_n (fun h => ?_) (fun h => ?_) | refine br_b (fun h => ?_) (fun h => ?_) | refine drw (by kernel_rfl) ?_ | refine chk (by kernel_rfl) ?_ | refine stop ?_)
  all_goals refine Stop.mk ?_
  · have h3 : ¬ b.take 3 = [82, 67, 1] := fun h9 => by
      have := congrArg List.length h9
      rw [List.length_take] at this
      simp only [List.length_cons, List.length_nil] at this
      omega
    exact fin_id hE 0 rfl rfl rfl rfl ⟨by unfold dOf; rw [if_neg h3]; rfl, rfl⟩
  have hcap := hb.cap
  have htop := hb.top
  have hlen3 : 3 ≤ b.length := by omega
  refine ⟨⟨by omega, by omega⟩, fun A' hA' => ?_⟩
  obtain rfl : A' = A := by rw [hA']; split; · rfl
                            cases A <;> simp [Addr.add]
  clear hA'
  repeat' ((fail_if_success with_reducible refine Stop.mk ?_); (conv => whnf); with_reducible first | refine br_t ?_ | refine br_f ?_ | refine br_nn ?_ | refine br_ns ?_ | refine br_not ?_ | refine br_d (fun h => ?_) (fun h => ?_) | refine br_e (fun h => ?_) (fun h => ?_) | refine br_n (fun h => ?_) (fun h => ?_) | refine br_b (fun h => ?_) (fun h => ?_) | refine drw (by kernel_rfl) ?_ | refine chk (by kernel_rfl) ?_ | refine stop ?_)
  all_goals refine Stop.mk ?_
  refine ⟨b.take 3, by rw [List.length_take]; omega, slB_take hb 3 (by omega), ?_⟩
  repeat' ((fail_if_success with_reducible refine Stop.mk ?_); (conv => whnf); with_reducible first | refine br_t ?_ | refine br_f ?_ | refine br_nn ?_ | refine br_ns ?_ | refine br_not ?_ | refine br_d (fun h => ?_) (fun h => ?_) | refine br_e (fun h => ?_) (fun h => ?_) | refine br_n (fun h => ?_) (fun h => ?_) | refine br_b (fun h => ?_) (fun h => ?_) | refine drw (by kernel_rfl) ?_ | refine chk (by kernel_rfl) ?_ | refine stop ?_)
  all_goals refine Stop.mk ?_
  rotate_left
  · have h4 : ¬ b.take 3 = [82, 67, 1] := fun h9 => by
      rw [str3 hbb hlen3, decide_eq_true h9] at h
      exact absurd h (by decide)
    exact fin_id hE 0 rfl rfl rfl rfl ⟨by unfold dOf; rw [if_neg h4]; rfl, rfl⟩
  have h4 : b.take 3 = [82, 67, 1] := by
    rw [str3 hbb hlen3] at h
    exact of_decide_eq_true h
  have hdo : dOf b = dBody (b.drop 3) := if_pos h4
  rw [hdo]
  clear h hdo h4
  refine ⟨⟨by omega, by omega⟩, fun A2 hA2 => ?_⟩
  have hs2 := slB_drop hb 3 hlen3 hA2
  have hbd : isB (b.drop 3) := isB_drop hbb 3
  have hdl : b.length - 3 = (b.drop 3).length := by rw [List.length_drop]
  obtain ⟨d, hd⟩ : ∃ d, d = b.drop 3 := ⟨_, rfl⟩
  rw [← hd] at hs2 hbd hdl ⊢
  have hdm : d.length ≤ 1000000 := by omega
  have hsum := dSplit_len [1, 2, 3] (d, 0)
  dsimp only at hsum
  repeat' ((fail_if_success with_reducible refine Stop.mk ?_); (conv => whnf); with_reducible first | refine br_t ?_ | refine br_f ?_ | refine br_nn ?_ | refine br_ns ?_ | refine br_not ?_ | refine br_d (fun h => ?_) (fun h => ?_) | refine br_e (fun h => ?_) (fun h => ?_) | refine br_n (fun h => ?_) (fun h => ?_) | refine drw (by kernel_rfl) ?_ | refine chk (by kernel_rfl) ?_ | refine stop ?_)
  all_goals refine Stop.mk ?_
  rw [show b.length - Int.toNat 3 = d.length from hdl, show c - Int.toNat 3 = c - 3 from rfl]
  refine call_fn [1] (dsplit_fn ⟨0, 0, 0, 0⟩ hbd hs2 (by omega) ⟨by dsimp only; omega, by dsimp only; omega, by dsimp only; omega, by dsimp only; omega⟩) rfl ⟨rfl, trivial⟩ (by decide) ?_
  rintro sv H' G' ⟨vals, rfl, rfl, hv⟩ hg
  refine ⟨Nat.le_of_ble_eq_true rfl, ?_⟩
  replace hb := Sl.to hg hb
  clear hs2 hg hA2
  rw [Int.zero_add]
  repeat' ((fail_if_success with_reducible refine Stop.mk ?_); (conv => whnf); with_reducible first | refine br_t ?_ | refine br_f ?_ | refine br_nn ?_ | refine br_ns ?_ | refine br_not ?_ | refine br_d (fun h => ?_) (fun h => ?_) | refine br_e (fun h => ?_) (fun h => ?_) | refine br_n (fun h => ?_) (fun h => ?_) | refine drw (by kernel_rfl) ?_ | refine chk (by kernel_rfl) ?_ | refine stop ?_)
  all_goals refine Stop.mk ?_
  refine ⟨⟨by omega, by omega⟩, fun A2 hA2 => ?_⟩
  have hs2 := slB_drop hb 3 hlen3 hA2
  rw [← hd] at hs2
  repeat' ((fail_if_success with_reducible refine Stop.mk ?_); (conv => whnf); with_reducible first | refine br_t ?_ | refine br_f ?_ | refine br_nn ?_ | refine br_ns ?_ | refine br_not ?_ | refine br_d (fun h => ?_) (fun h => ?_) | refine br_e (fun h => ?_) (fun h => ?_) | refine br_n (fun h => ?_) (fun h => ?_) | refine drw (by kernel_rfl) ?_ | refine chk (by kernel_rfl) ?_ | refine stop ?_)
  all_goals refine Stop.mk ?_
  rw [show b.length - Int.toNat 3 = d.length from hdl, show c - Int.toNat 3 = c - 3 from rfl]
  refine call_fz 2 rfl (hv.ones) (enters_of Try.func18 rfl rfl) fun Ap cp Gp hgp hsp => ?_
  (conv => whnf)
  refine call_fz 3 rfl (by simp [Value.oneCell']) (enters_of Try.func18 rfl rfl) fun Az cz Gz hgz hsz => ?_
  (conv => whnf)
  replace hs2 := Sl.to hgz (Sl.to hgp hs2)
  have hP : kBs.S _ Ap cp (dSplit [1, 2, 3] (d, 0)) := (kBs_of _ hsp rfl rfl (hv.to hgp)).to hgz
  refine call_fn [] (split_fn _ A2 Az (c - 3) cz d [1, 2, 3] hbd hs2 (kB_of [1, 2, 3] hsz rfl rfl rfl (by decide)) (by decide) (by omega)) rfl trivial (by decide) ?_
  intro sv H' G' hp hg
  replace hP := hP.to hg
  clear hg hgz hgp hs2 hsz hsp hv hb hA2
  refine ⟨Nat.le_of_ble_eq_true rfl, ?_⟩
  unfold SplitPost at hp
  obtain ⟨L, hL⟩ : ∃ L, L = sumL (dSplit [1, 2, 3] (d, 0)) := ⟨_, rfl⟩
  have hdb : dBody d = if (splitR [1, 2, 3] d).2 ≠ 0 then ⟨0, 0, 0, L⟩ else if (sEnd (dFirst d).2).2 ≠ 0 then ⟨(dFirst d).1.1.blocks, sumI (dFirst d).1.2, 0, L⟩ else if (sEnd (dSecond d).2).2 ≠ 0 ∨ (dFirst d).1.1.blocks ≠ (dSecond d).1.1.blocks ∨ (dFirst d).1.1.args ≠ (dSecond d).1.1.args then ⟨(dFirst d).1.1.blocks + (dSecond d).1.1.blocks, sumI (dFirst d).1.2 + sumI (dSecond d).1.2, 0, L⟩ else ⟨(dFirst d).1.1.blocks + (dSecond d).1.1.blocks, sumI (dFirst d).1.2 + sumI (dSecond d).1.2, sumI (dInv (dFirst d).1.1.regs (dSecond d).1.1.regs (dSecond d).1.1.slots (dFirst d).1.1.blocks ((splitS [1, 2, 3] (d, 0)).1.getD 2 [], 0)).1, L⟩ := by rw [hL]; rfl
  rw [← hL] at hsum
  rw [hdb]
  rw [← hL]
  by_cases hz : (splitR [1, 2, 3] d).2 = 0
  rotate_left
  · rw [if_neg hz] at hp
    have hp1 := hp.1
    have hp2 := hp.2
    subst hp1 hp2
    rw [if_pos hz]
    repeat' ((fail_if_success with_reducible refine Stop.mk ?_); (conv => whnf); with_reducible first | refine br_t ?_ | refine br_f ?_ | refine br_nn ?_ | refine br_ns ?_ | refine br_not ?_ | refine br_d (fun h => ?_) (fun h => ?_) | refine br_e (fun h => ?_) (fun h => ?_) | refine br_n (fun h => ?_) (fun h => ?_) | refine drw (by kernel_rfl) ?_ | refine chk (by kernel_rfl) ?_ | refine stop ?_)
    all_goals refine Stop.mk ?_
    all_goals try exact absurd (by assumption) hz
    exact fin_id hE 0 rfl rfl rfl rfl ⟨rfl, rfl⟩
  rw [if_pos hz] at hp
  rw [if_neg (show ¬ (splitR [1, 2, 3] d).2 ≠ 0 by simp [hz])]
  obtain ⟨X, Y, Z, hd1, hd2⟩ := split3 hbd (by omega) hz
  have hf : dFirst d = dFn (X, 0) := by unfold dFirst; rw [hd2]; rfl
  have hse : dSecond d = dMFn (Y, 0) := by unfold dSecond; rw [hd2]; rfl
  have hg3 : (splitS [1, 2, 3] (d, 0)).1.getD 2 [] = Z := by rw [hd2]; rfl
  rw [hf, hse, hg3]
  rw [hd1] at hP
  obtain ⟨valz, hp1, hp2, hvz⟩ := hp
  subst hp1 hp2
  repeat' ((fail_if_success with_reducible refine Stop.mk ?_); (conv => whnf); with_reducible first | refine br_t ?_ | refine br_f ?_ | refine br_nn ?_ | refine br_ns ?_ | refine br_not ?_ | refine br_d (fun h => ?_) (fun h => ?_) | refine br_e (fun h => ?_) (fun h => ?_) | refine br_n (fun h => ?_) (fun h => ?_) | refine drw (by kernel_rfl) ?_ | refine chk (by kernel_rfl) ?_ | refine stop ?_)
  all_goals refine Stop.mk ?_
  all_goals try exact absurd rfl (by assumption)
  have hln : X.length ≤ 1000000 ∧ Y.length ≤ 1000000 ∧ Z.length ≤ 1000000 := by
    have h9 := hsum.2
    rw [hL, hd1, sumL_cons, sumL_cons, sumL_cons, show sumL [] = 0 from rfl] at h9
    omega
  rw [hd1]
  clear hd1 hd2 hdb hvz hz hf hse hg3 hL hd
  rw [show [X, Y, Z].length = 3 from rfl]
  obtain ⟨_, hs_, hat_⟩ := hP.at (sz := 1) rfl
  refine ⟨⟨by omega, by omega⟩, _, hs_, fun ad had => ?_⟩
  obtain ⟨u, cells, hu, hRu, hGu⟩ := hat_ 0 (by simp) ad (by first | exact had | (rw [Int.toNat_natCast] at had; exact had))
  clear had hat_ hs_
  obtain rfl : X = u := Option.some.inj hu
  obtain ⟨A', c', rfl, hsu, hbu⟩ := kBs_R hRu
  clear hu
  repeat' ((fail_if_success with_reducible refine Stop.mk ?_); (conv => whnf); with_reducible first | refine br_t ?_ | refine br_f ?_ | refine br_nn ?_ | refine br_ns ?_ | refine br_not ?_ | refine br_d (fun h => ?_) (fun h => ?_) | refine br_e (fun h => ?_) (fun h => ?_) | refine br_n (fun h => ?_) (fun h => ?_) | refine drw (by kernel_rfl) ?_ | refine chk (by kernel_rfl) ?_ | refine stop ?_)
  all_goals refine Stop.mk ?_
  refine ⟨_, ld1 hGu, ?_⟩
  repeat' ((fail_if_success with_reducible refine Stop.mk ?_); (conv => whnf); with_reducible first | refine br_t ?_ | refine br_f ?_ | refine br_nn ?_ | refine br_ns ?_ | refine br_not ?_ | refine br_d (fun h => ?_) (fun h => ?_) | refine br_e (fun h => ?_) (fun h => ?_) | refine br_n (fun h => ?_) (fun h => ?_) | refine drw (by kernel_rfl) ?_ | refine chk (by kernel_rfl) ?_ | refine stop ?_)
  all_goals refine Stop.mk ?_
  clear hGu hRu
  refine call_fn [] (pnew_fn _ A' X c' hbu hsu (by omega)) rfl trivial (by decide) ?_
  rintro sv H' G' ⟨A3, c3, rfl, rfl, hc3⟩ hg
  refine ⟨Nat.le_of_ble_eq_true rfl, ?_⟩
  replace hP := hP.to hg
  clear hg hsu
  obtain ⟨k1, k2, k3, k4, k5⟩ := dFn_lin hbu
  repeat' ((fail_if_success with_reducible refine Stop.mk ?_); (conv => whnf); with_reducible first | refine br_t ?_ | refine br_f ?_ | refine br_nn ?_ | refine br_ns ?_ | refine br_not ?_ | refine br_d (fun h => ?_) (fun h => ?_) | refine br_e (fun h => ?_) (fun h => ?_) | refine br_n (fun h => ?_) (fun h => ?_) | refine drw (by kernel_rfl) ?_ | refine chk (by kernel_rfl) ?_ | refine stop ?_)
  all_goals refine Stop.mk ?_
  refine call_fn [1, 5] (dsource_fn ⟨0, 0, 0, L⟩ hc3 ⟨by dsimp only; omega, by dsimp only; omega, by dsimp only; omega, by dsimp only; omega⟩) rfl ⟨rfl, rfl, trivial⟩ (by decide) ?_
  rintro sv H' G' ⟨rfl, rfl, rfl⟩ -
  refine ⟨Nat.le_of_ble_eq_true rfl, ?_⟩
  rw [Int.zero_add, Int.zero_add]
  have hc4 : CurOK G' A3 c3 X (dFn (X, 0)).2 := hc3.next (dFn_suf X)
  clear hc3
  generalize dFn (X, 0) = r1 at *
  obtain ⟨⟨s1, l1⟩, p1⟩ := r1
  dsimp only at k1 k2 k3 k4 k5 hc4 ⊢
  repeat' ((fail_if_success with_reducible refine Stop.mk ?_); (conv => whnf); with_reducible first | refine br_t ?_ | refine br_f ?_ | refine br_nn ?_ | refine br_ns ?_ | refine br_not ?_ | refine br_d (fun h => ?_) (fun h => ?_) | refine br_e (fun h => ?_) (fun h => ?_) | refine br_n (fun h => ?_) (fun h => ?_) | refine drw (by kernel_rfl) ?_ | refine chk (by kernel_rfl) ?_ | refine stop ?_)
  all_goals refine Stop.mk ?_
  refine call_fn [5] (pend_fn hc4) rfl ⟨rfl, trivial⟩ (by decide) ?_
  rintro sv H' G' ⟨rfl, rfl, rfl⟩ -
  refine ⟨Nat.le_of_ble_eq_true rfl, ?_⟩
  repeat' ((fail_if_success with_reducible refine Stop.mk ?_); (conv => whnf); with_reducible first | refine br_t ?_ | refine br_f ?_ | refine br_nn ?_ | refine br_ns ?_ | refine br_not ?_ | refine br_d (fun h => ?_) (fun h => ?_) | refine br_e (fun h => ?_) (fun h => ?_) | refine br_n (fun h => ?_) (fun h => ?_) | refine drw (by kernel_rfl) ?_ | refine chk (by kernel_rfl) ?_ | refine stop ?_)
  all_goals refine Stop.mk ?_
  refine call_fn [5] (perr_fn (p := sEnd p1)) rfl ⟨rfl, trivial⟩ (by decide) ?_
  rintro sv H' G' ⟨rfl, rfl, rfl⟩ -
  refine ⟨Nat.le_of_ble_eq_true rfl, ?_⟩
  repeat' ((fail_if_success with_reducible refine Stop.mk ?_); (conv => whnf); with_reducible first | refine br_t ?_ | refine br_f ?_ | refine br_nn ?_ | refine br_ns ?_ | refine br_not ?_ | refine br_d (fun h => ?_) (fun h => ?_) | refine br_e (fun h => ?_) (fun h => ?_) | refine br_n (fun h => ?_) (fun h => ?_) | refine drw (by kernel_rfl) ?_ | refine chk (by kernel_rfl) ?_ | refine stop ?_)
  all_goals refine Stop.mk ?_
  · have h9 : ¬ (sEnd p1).2 ≠ 0 := by simpa using h
    rw [if_neg h9]
    clear h h9
    obtain ⟨_, hs_, hat_⟩ := hP.at (sz := 1) rfl
    refine ⟨⟨by omega, by omega⟩, _, hs_, fun ad had => ?_⟩
    obtain ⟨u, cells, hu, hRu, hGu⟩ := hat_ 1 (by simp) ad (by first | exact had | (rw [Int.toNat_natCast] at had; exact had))
    clear had hat_ hs_
    obtain rfl : Y = u := Option.some.inj hu
    obtain ⟨A', c', rfl, hsu, hbu⟩ := kBs_R hRu
    clear hu
    repeat' ((fail_if_success with_reducible refine Stop.mk ?_); (conv => whnf); with_reducible first | refine br_t ?_ | refine br_f ?_ | refine br_nn ?_ | refine br_ns ?_ | refine br_not ?_ | refine br_d (fun h => ?_) (fun h => ?_) | refine br_e (fun h => ?_) (fun h => ?_) | refine br_n (fun h => ?_) (fun h => ?_) | refine drw (by kernel_rfl) ?_ | refine chk (by kernel_rfl) ?_ | refine stop ?_)
    all_goals refine Stop.mk ?_
    refine ⟨_, ld1 hGu, ?_⟩
    repeat' ((fail_if_success with_reducible refine Stop.mk ?_); (conv => whnf); with_reducible first | refine br_t ?_ | refine br_f ?_ | refine br_nn ?_ | refine br_ns ?_ | refine br_not ?_ | refine br_d (fun h => ?_) (fun h => ?_) | refine br_e (fun h => ?_) (fun h => ?_) | refine br_n (fun h => ?_) (fun h => ?_) | refine drw (by kernel_rfl) ?_ | refine chk (by kernel_rfl) ?_ | refine stop ?_)
    all_goals refine Stop.mk ?_
    clear hGu hRu
    refine call_fn [] (pnew_fn _ A' Y c' hbu hsu (by omega)) rfl trivial (by decide) ?_
    rintro sv H' G' ⟨A5, c5, rfl, rfl, hc5⟩ hg
    refine ⟨Nat.le_of_ble_eq_true rfl, ?_⟩
    replace hP := hP.to hg
    clear hg hsu
    obtain ⟨m1, m2, m3, m4, m5⟩ := dMFn_lin hbu
    repeat' ((fail_if_success with_reducible refine Stop.mk ?_); (conv => whnf); with_reducible first | refine br_t ?_ | refine br_f ?_ | refine br_nn ?_ | refine br_ns ?_ | refine br_not ?_ | refine br_d (fun h => ?_) (fun h => ?_) | refine br_e (fun h => ?_) (fun h => ?_) | refine br_n (fun h => ?_) (fun h => ?_) | refine drw (by kernel_rfl) ?_ | refine chk (by kernel_rfl) ?_ | refine stop ?_)
    all_goals refine Stop.mk ?_
    refine call_fn [1, 7] (dmachine_fn ⟨s1.blocks, sumI l1, 0, L⟩ hc5 ⟨by dsimp only; omega, by dsimp only; omega, by dsimp only; omega, by dsimp only; omega⟩) rfl ⟨rfl, rfl, trivial⟩ (by decide) ?_
    rintro sv H' G' ⟨rfl, rfl, rfl⟩ -
    refine ⟨Nat.le_of_ble_eq_true rfl, ?_⟩
    have hc6 : CurOK G' A5 c5 Y (dMFn (Y, 0)).2 := hc5.next (dMFn_suf Y)
    clear hc5
    generalize dMFn (Y, 0) = r2 at *
    obtain ⟨⟨s2, l2⟩, p2⟩ := r2
    dsimp only at m1 m2 m3 m4 m5 hc6 ⊢
    repeat' ((fail_if_success with_reducible refine Stop.mk ?_); (conv => whnf); with_reducible first | refine br_t ?_ | refine br_f ?_ | refine br_nn ?_ | refine br_ns ?_ | refine br_not ?_ | refine br_d (fun h => ?_) (fun h => ?_) | refine br_e (fun h => ?_) (fun h => ?_) | refine br_n (fun h => ?_) (fun h => ?_) | refine drw (by kernel_rfl) ?_ | refine chk (by kernel_rfl) ?_ | refine stop ?_)
    all_goals refine Stop.mk ?_
    refine call_fn [7] (pend_fn hc6) rfl ⟨rfl, trivial⟩ (by decide) ?_
    rintro sv H' G' ⟨rfl, rfl, rfl⟩ -
    refine ⟨Nat.le_of_ble_eq_true rfl, ?_⟩
    repeat' ((fail_if_success with_reducible refine Stop.mk ?_); (conv => whnf); with_reducible first | refine br_t ?_ | refine br_f ?_ | refine br_nn ?_ | refine br_ns ?_ | refine br_not ?_ | refine br_d (fun h => ?_) (fun h => ?_) | refine br_e (fun h => ?_) (fun h => ?_) | refine br_n (fun h => ?_) (fun h => ?_) | refine drw (by kernel_rfl) ?_ | refine chk (by kernel_rfl) ?_ | refine stop ?_)
    all_goals refine Stop.mk ?_
    refine call_fn [7] (perr_fn (p := sEnd p2)) rfl ⟨rfl, trivial⟩ (by decide) ?_
    rintro sv H' G' ⟨rfl, rfl, rfl⟩ -
    refine ⟨Nat.le_of_ble_eq_true rfl, ?_⟩
    repeat' ((fail_if_success with_reducible refine Stop.mk ?_); (conv => whnf); with_reducible first | refine br_t ?_ | refine br_f ?_ | refine br_nn ?_ | refine br_ns ?_ | refine br_not ?_ | refine br_d (fun h => ?_) (fun h => ?_) | refine br_e (fun h => ?_) (fun h => ?_) | refine br_n (fun h => ?_) (fun h => ?_) | refine drw (by kernel_rfl) ?_ | refine chk (by kernel_rfl) ?_ | refine stop ?_)
    all_goals refine Stop.mk ?_
    all_goals try
      have h9 : (sEnd p2).2 ≠ 0 ∨ s1.blocks ≠ s2.blocks ∨ s1.args ≠ s2.args := by
        first | exact .inl (by assumption) | exact .inr (.inl (by assumption)) | exact .inr (.inr (by assumption))
      rw [if_pos h9]
      exact fin_id hE 0 rfl rfl rfl rfl ⟨rfl, rfl⟩
    have h9 : ¬ ((sEnd p2).2 ≠ 0 ∨ s1.blocks ≠ s2.blocks ∨ s1.args ≠ s2.args) := by
      rintro (h9 | h9 | h9)
      · exact h9 (by assumption)
      · exact h9 (by assumption)
      · exact h9 (by assumption)
    rw [if_neg h9]
    clear h9
    obtain ⟨_, hs_, hat_⟩ := hP.at (sz := 1) rfl
    refine ⟨⟨by omega, by omega⟩, _, hs_, fun ad had => ?_⟩
    obtain ⟨u, cells, hu, hRu, hGu⟩ := hat_ 2 (by simp) ad (by first | exact had | (rw [Int.toNat_natCast] at had; exact had))
    clear had hat_ hs_
    obtain rfl : Z = u := Option.some.inj hu
    obtain ⟨A', c', rfl, hsu, hbu⟩ := kBs_R hRu
    clear hu
    repeat' ((fail_if_success with_reducible refine Stop.mk ?_); (conv => whnf); with_reducible first | refine br_t ?_ | refine br_f ?_ | refine br_nn ?_ | refine br_ns ?_ | refine br_not ?_ | refine br_d (fun h => ?_) (fun h => ?_) | refine br_e (fun h => ?_) (fun h => ?_) | refine br_n (fun h => ?_) (fun h => ?_) | refine drw (by kernel_rfl) ?_ | refine chk (by kernel_rfl) ?_ | refine stop ?_)
    all_goals refine Stop.mk ?_
    refine ⟨_, ld1 hGu, ?_⟩
    repeat' ((fail_if_success with_reducible refine Stop.mk ?_); (conv => whnf); with_reducible first | refine br_t ?_ | refine br_f ?_ | refine br_nn ?_ | refine br_ns ?_ | refine br_not ?_ | refine br_d (fun h => ?_) (fun h => ?_) | refine br_e (fun h => ?_) (fun h => ?_) | refine br_n (fun h => ?_) (fun h => ?_) | refine drw (by kernel_rfl) ?_ | refine chk (by kernel_rfl) ?_ | refine stop ?_)
    all_goals refine Stop.mk ?_
    clear hGu hRu
    refine call_fn [] (pnew_fn _ A' Z c' hbu hsu (by omega)) rfl trivial (by decide) ?_
    rintro sv H' G' ⟨A7, c7, rfl, rfl, hc7⟩ hg
    refine ⟨Nat.le_of_ble_eq_true rfl, ?_⟩
    clear hg hsu
    repeat' ((fail_if_success with_reducible refine Stop.mk ?_); (conv => whnf); with_reducible first | refine br_t ?_ | refine br_f ?_ | refine br_nn ?_ | refine br_ns ?_ | refine br_not ?_ | refine br_d (fun h => ?_) (fun h => ?_) | refine br_e (fun h => ?_) (fun h => ?_) | refine br_n (fun h => ?_) (fun h => ?_) | refine drw (by kernel_rfl) ?_ | refine chk (by kernel_rfl) ?_ | refine stop ?_)
    all_goals refine Stop.mk ?_
    refine call_fn [1, 9] (dwit_fn ⟨s1.blocks + s2.blocks, sumI l1 + sumI l2, 0, L⟩ s1 s2 hc7 k5 m5 ⟨by dsimp only; omega, by dsimp only; omega, by dsimp only; omega, by dsimp only; omega⟩) rfl ⟨rfl, rfl, trivial⟩ (by decide) ?_
    rintro sv H' G' ⟨rfl, q7, rfl, rfl⟩ -
    refine ⟨Nat.le_of_ble_eq_true rfl, ?_⟩
    rw [Int.zero_add]
    repeat' ((fail_if_success with_reducible refine Stop.mk ?_); (conv => whnf); with_reducible first | refine br_t ?_ | refine br_f ?_ | refine br_nn ?_ | refine br_ns ?_ | refine br_not ?_ | refine br_d (fun h => ?_) (fun h => ?_) | refine br_e (fun h => ?_) (fun h => ?_) | refine br_n (fun h => ?_) (fun h => ?_) | refine drw (by kernel_rfl) ?_ | refine chk (by kernel_rfl) ?_ | refine stop ?_)
    all_goals refine Stop.mk ?_
    exact fin_id hE 0 rfl rfl rfl rfl ⟨rfl, rfl⟩
  · rw [if_pos (by assumption)]
    exact fin_id hE 0 rfl rfl rfl rfl ⟨rfl, rfl⟩
end Go.Proofs.Ytkhajngpcgmpnaa.Cu
