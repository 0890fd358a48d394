/- The law: what is read is right, and its encoding is what was read. -/
import Derived.Test.YtknpjbbkageiiaaFuI
namespace Go.Proofs.Ytknpjbbkageiiaa.Cu
open Go Go.SX Go.Proofs.Ytknpjbbkageiiaa.VT
set_option maxRecDepth 100000
set_option linter.unusedVariables false
set_option linter.unusedSimpArgs false
theorem read18_fn {G : Gh} {A A' B : Option Addr} {bs want : List Int} {c c' d : Nat} {p : Ps} (hC : CurOK G A c bs p) (hb : SlB G A' c' bs) (hw : SlB G B d want) :
    Ct Try.prog 51 [.p 0 0, .v (.slice A' bs.length c'), .v (.slice B want.length d)] [curL A bs c p] G fun sv H' G' =>
      sv = .v (.bool (decide (bs.length - p.1.length = want.length ∧ bs.take want.length = want))) ∧ H' = [curL A bs c p] ∧ G' = G := by
  have hcap := hb.cap
  have htop := hb.top
  have hcw := hw.cap
  have htw := hw.top
  refine fn_of follows [] Try.func51 rfl rfl fun E hE => ?_
  repeat' ((fail_if_success with_reducible refine Stop.mk ?_); (conv => whnf); with_reducible first | refine br_t ?_ | refine br_f ?_ | refine br_nn ?_ | refine br_ns ?_ | refine br_not ?_ | refine br_d (fun h => ?_) (fun h => ?_) | refine br_e (fun h => ?_) (fun h => ?_) | refine br_n (fun h => ?_) (fun h => ?_) | refine drw (by kernel_rfl) ?_ | refine chk (by kernel_rfl) ?_ | refine stop ?_)
  all_goals refine Stop.mk ?_
  refine call_fn [0] (pat_fn (p := p)) rfl ⟨rfl, trivial⟩ (by decide) ?_
  rintro sv H' G' ⟨rfl, rfl, rfl⟩ -
  refine ⟨Nat.le_of_ble_eq_true rfl, ?_⟩
  repeat' ((fail_if_success with_reducible refine Stop.mk ?_); (conv => whnf); with_reducible first | refine br_t ?_ | refine br_f ?_ | refine br_nn ?_ | refine br_ns ?_ | refine br_not ?_ | refine br_d (fun h => ?_) (fun h => ?_) | refine br_e (fun h => ?_) (fun h => ?_) | refine br_n (fun h => ?_) (fun h => ?_) | refine drw (by kernel_rfl) ?_ | refine chk (by kernel_rfl) ?_ | refine stop ?_)
  all_goals refine Stop.mk ?_
  · refine ⟨⟨by omega, by omega⟩, fun A2 hA2 => ?_⟩
    have hA3 : A2 = A' := by
      rw [hA2]
      split
      · rfl
      · cases A' <;> simp [Addr.add]
    subst hA3
    have h1 := slB_take hb want.length (by omega)
    have hl : (bs.take want.length).length = want.length := by rw [List.length_take]; omega
    rw [Int.toNat_natCast, Nat.sub_zero, Nat.sub_zero]
    dsimp only
    repeat' ((fail_if_success with_reducible refine Stop.mk ?_); (conv => whnf); with_reducible first | refine br_t ?_ | refine br_f ?_ | refine br_nn ?_ | refine br_ns ?_ | refine br_not ?_ | refine br_d (fun h => ?_) (fun h => ?_) | refine br_e (fun h => ?_) (fun h => ?_) | refine br_n (fun h => ?_) (fun h => ?_) | refine drw (by kernel_rfl) ?_ | refine chk (by kernel_rfl) ?_ | refine stop ?_)
    all_goals refine Stop.mk ?_
    refine call_fn [] (same_fn' _ A2 B want.length c' d (bs.take want.length) want hl.symm (SlB.of _ h1 hl.symm rfl rfl) hw) rfl trivial (by decide) ?_
    rintro sv H' G' ⟨rfl, rfl, rfl⟩ -
    refine ⟨Nat.le_of_ble_eq_true rfl, ?_⟩
    repeat' ((fail_if_success with_reducible refine Stop.mk ?_); (conv => whnf); with_reducible first | refine br_t ?_ | refine br_f ?_ | refine br_nn ?_ | refine br_ns ?_ | refine br_not ?_ | refine br_d (fun h => ?_) (fun h => ?_) | refine br_e (fun h => ?_) (fun h => ?_) | refine br_n (fun h => ?_) (fun h => ?_) | refine drw (by kernel_rfl) ?_ | refine chk (by kernel_rfl) ?_ | refine stop ?_)
    all_goals refine Stop.mk ?_
    refine fin_id hE 1 rfl rfl rfl rfl ⟨congrArg (fun b => SV.v (.bool b)) ?_, rfl, rfl⟩
    have h2 : bs.length - p.1.length = want.length := by omega
    simp only [h2, true_and]
  · refine fin_id hE 1 rfl rfl rfl rfl ⟨congrArg (fun b => SV.v (.bool b)) ?_, rfl, rfl⟩
    symm; simp only [decide_eq_false_iff_not]; rintro ⟨h1, h2⟩
    have := congrArg List.length h2
    rw [List.length_take] at this
    omega
  · refine fin_id hE 1 rfl rfl rfl rfl ⟨congrArg (fun b => SV.v (.bool b)) ?_, rfl, rfl⟩
    symm; simp only [decide_eq_false_iff_not]; rintro ⟨h1, h2⟩
    omega
theorem sFnR_suf (p : Ps) : (sFnR p).2.1 <:+ p.1 := (sBody_suf _ _).trans (sHead_suf p)
theorem sMFnR_suf (p : Ps) : (sMFnR p).2.1 <:+ p.1 := (sMBody_suf _ _ _).trans (sMHead_suf p)
theorem okFn_ops {f : Fn} (h : okFn f) : opsB f.blocks := by
  obtain ⟨_, _, _, _, _, h6⟩ := (okFn_iff f).1 h
  intro b hb i hi
  exact ((h6 b hb).1 i hi).1.2
theorem okFn_trm {f : Fn} (h : okFn f) : trmsB f.blocks := by
  obtain ⟨_, _, _, _, _, h6⟩ := (okFn_iff f).1 h
  intro b hb
  exact (h6 b hb).2.1
theorem okMFn_trm {f : MFn} (h : okMFn f) : trmsM f.blocks := by
  obtain ⟨_, _, _, _, _, h6⟩ := (okMFn_iff f).1 h
  intro b hb
  exact (h6 b hb).2.1
theorem wFn_wBs (f : Fn) : (wBs f.blocks).length ≤ (wFn f).length := by unfold wFn; simp only [List.length_append]; omega
theorem wMFn_wMBs (f : MFn) : (wMBs f.blocks).length ≤ (wMFn f).length := by unfold wMFn; simp only [List.length_append]; omega
theorem okFn_n {f : Fn} (h : okFn f) : f.blocks.length ≤ 1048576 ∧ totB f.blocks ≤ 1048576 := by
  obtain ⟨_, _, _, h4, h5, _⟩ := (okFn_iff f).1 h
  exact ⟨h4, h5⟩
theorem okMFn_n {f : MFn} (h : okMFn f) : f.blocks.length ≤ 1048576 ∧ totMB f.blocks ≤ 1048576 := by
  obtain ⟨_, _, _, h4, h5, _⟩ := (okMFn_iff f).1 h
  exact ⟨h4, h5⟩
theorem wBs_ge : ∀ (l : List Blk), l.length ≤ (wBs l).length
  | [] => by simp
  | b :: l => by
    have h1 := wBs_ge l
    have h2 : 0 < (putB b.code.length).length := vput_len_pos 9 _
    have h5 : (encB b).length = (putB b.code.length).length + (encCode b.code).length + (putTrmB b.term).length := by unfold encB; simp only [List.length_append]
    unfold wBs at *
    simp only [List.map_cons, List.flatten_cons, List.length_append, List.length_cons]
    omega
theorem wMBs_ge : ∀ (l : List MBlk), l.length ≤ (wMBs l).length
  | [] => by simp
  | b :: l => by
    have h1 := wMBs_ge l
    have h2 : 0 < (putB b.code.length).length := vput_len_pos 9 _
    have h5 : (encMB b).length = (putB b.code.length).length + (encMCode b.code).length + (putTrmB b.term).length := by unfold encMB; simp only [List.length_append]
    unfold wMBs at *
    simp only [List.map_cons, List.flatten_cons, List.length_append, List.length_cons]
    omega
set_option maxHeartbeats 8000000 in
theorem fcan_fn (G : Gh) (A : Option Addr) (c : Nat) (b : List Int) (hbb : isB b) (hsb : SlB G A c b) :
    Ct Try.prog 10 [.v (.slice A b.length c)] [] G fun sv H' G' => sv = .v (.bool true) ∧ H' = [] := by
  have hcapb := hsb.cap
  have htop := hsb.top
  have cF := (Cod.fn (sh := fun e => e = 1) rfl sh1).ca b hbb
  have cM := (Cod.mfn (sh := fun e => e = 1) rfl sh1).ca b hbb
  have sF := sFnR_suf (b, 0)
  have sM := sMFnR_suf (b, 0)
  refine fn_of follows [] Try.func10 rfl rfl fun E hE => ?_
  repeat' ((fail_if_success with_reducible refine Stop.mk ?_); (conv => whnf); with_reducible first | refine br_t ?_ | refine br_f ?_ | refine br_nn ?_ | refine br_ns ?_ | refine br_not ?_ | refine br_d (fun h => ?_) (fun h => ?_) | refine br_e (fun h => ?_) (fun h => ?_) | refine br_n (fun h => ?_) (fun h => ?_) | refine drw (by kernel_rfl) ?_ | refine chk (by kernel_rfl) ?_ | refine stop ?_)
  all_goals refine Stop.mk ?_
  refine call_fn [] (awake18_fn _) rfl trivial (by decide) ?_
  rintro sv H' G' ⟨rfl, rfl⟩ hg
  refine ⟨Nat.le_of_ble_eq_true rfl, ?_⟩
  replace hsb := hsb.to hg
  clear hg
  repeat' ((fail_if_success with_reducible refine Stop.mk ?_); (conv => whnf); with_reducible first | refine br_t ?_ | refine br_f ?_ | refine br_nn ?_ | refine br_ns ?_ | refine br_not ?_ | refine br_d (fun h => ?_) (fun h => ?_) | refine br_e (fun h => ?_) (fun h => ?_) | refine br_n (fun h => ?_) (fun h => ?_) | refine drw (by kernel_rfl) ?_ | refine chk (by kernel_rfl) ?_ | refine stop ?_)
  all_goals refine Stop.mk ?_
  all_goals try
    refine call_fn [] (awake18_fn _) rfl trivial (by decide) ?_
    rintro sv H' G' ⟨rfl, rfl⟩ -
    refine ⟨Nat.le_of_ble_eq_true rfl, ?_⟩
    repeat' ((fail_if_success with_reducible refine Stop.mk ?_); (conv => whnf); with_reducible first | refine br_t ?_ | refine br_f ?_ | refine br_nn ?_ | refine br_ns ?_ | refine br_not ?_ | refine br_d (fun h => ?_) (fun h => ?_) | refine br_e (fun h => ?_) (fun h => ?_) | refine br_n (fun h => ?_) (fun h => ?_) | refine drw (by kernel_rfl) ?_ | refine chk (by kernel_rfl) ?_ | refine stop ?_)
    all_goals refine Stop.mk ?_
    exact fin_all ⟨rfl, rfl⟩
  refine call_fn [] (pnew_fn _ A b c hbb hsb (by omega)) rfl trivial (by decide) ?_
  rintro sv H' G' ⟨A1, c1, rfl, rfl, hC1⟩ hg
  refine ⟨Nat.le_of_ble_eq_true rfl, ?_⟩
  replace hsb := hsb.to hg
  clear hg
  repeat' ((fail_if_success with_reducible refine Stop.mk ?_); (conv => whnf); with_reducible first | refine br_t ?_ | refine br_f ?_ | refine br_nn ?_ | refine br_ns ?_ | refine br_not ?_ | refine br_d (fun h => ?_) (fun h => ?_) | refine br_e (fun h => ?_) (fun h => ?_) | refine br_n (fun h => ?_) (fun h => ?_) | refine drw (by kernel_rfl) ?_ | refine chk (by kernel_rfl) ?_ | refine stop ?_)
  all_goals refine Stop.mk ?_
  refine call_fn [] (pnew_fn _ A b c hbb hsb (by omega)) rfl trivial (by decide) ?_
  rintro sv H' G' ⟨A2, c2, rfl, rfl, hC2⟩ hg
  refine ⟨Nat.le_of_ble_eq_true rfl, ?_⟩
  replace hsb := hsb.to hg
  replace hC1 := hC1.to hg
  clear hg
  repeat' ((fail_if_success with_reducible refine Stop.mk ?_); (conv => whnf); with_reducible first | refine br_t ?_ | refine br_f ?_ | refine br_nn ?_ | refine br_ns ?_ | refine br_not ?_ | refine br_d (fun h => ?_) (fun h => ?_) | refine br_e (fun h => ?_) (fun h => ?_) | refine br_n (fun h => ?_) (fun h => ?_) | refine drw (by kernel_rfl) ?_ | refine chk (by kernel_rfl) ?_ | refine stop ?_)
  all_goals refine Stop.mk ?_
  refine call_fn [0] (func_fn hC1) rfl ⟨rfl, trivial⟩ (by decide) ?_
  generalize sFnR (b, 0) = sf at *
  obtain ⟨f, rf, ef⟩ := sf
  dsimp only at cF sF ⊢
  rintro sv H' G' ⟨A3, c3, rfl, hf, rfl⟩ hg
  replace hsb := hsb.to hg
  replace hC1 : CurOK _ A1 c1 b (rf, ef) := (hC1.to hg).next sF
  replace hC2 := hC2.to hg
  clear hg
  refine ⟨Nat.le_of_ble_eq_true rfl, ?_⟩
  repeat' ((fail_if_success with_reducible refine Stop.mk ?_); (conv => whnf); with_reducible first | refine br_t ?_ | refine br_f ?_ | refine br_nn ?_ | refine br_ns ?_ | refine br_not ?_ | refine br_d (fun h => ?_) (fun h => ?_) | refine br_e (fun h => ?_) (fun h => ?_) | refine br_n (fun h => ?_) (fun h => ?_) | refine drw (by kernel_rfl) ?_ | refine chk (by kernel_rfl) ?_ | refine stop ?_)
  all_goals refine Stop.mk ?_
  refine call_fn [1] (mfunc_fn hC2) rfl ⟨rfl, trivial⟩ (by decide) ?_
  generalize sMFnR (b, 0) = sm at *
  obtain ⟨m, rm, em⟩ := sm
  dsimp only at cM sM ⊢
  rintro sv H' G' ⟨A4, c4, rfl, hm, rfl⟩ hg
  replace hsb := hsb.to hg
  replace hf := hf.to hg
  replace hC1 := hC1.to hg
  replace hC2 : CurOK _ A2 c2 b (rm, em) := (hC2.to hg).next sM
  clear hg
  refine ⟨Nat.le_of_ble_eq_true rfl, ?_⟩
  repeat' ((fail_if_success with_reducible refine Stop.mk ?_); (conv => whnf); with_reducible first | refine br_t ?_ | refine br_f ?_ | refine br_nn ?_ | refine br_ns ?_ | refine br_not ?_ | refine br_d (fun h => ?_) (fun h => ?_) | refine br_e (fun h => ?_) (fun h => ?_) | refine br_n (fun h => ?_) (fun h => ?_) | refine drw (by kernel_rfl) ?_ | refine chk (by kernel_rfl) ?_ | refine stop ?_)
  all_goals refine Stop.mk ?_
  refine call_fn [0] (perr_fn (p := (rf, ef))) rfl ⟨rfl, trivial⟩ (by decide) ?_
  rintro sv H' G' ⟨rfl, rfl, rfl⟩ -
  refine ⟨Nat.le_of_ble_eq_true rfl, ?_⟩
  dsimp only
  rcases Decidable.em (ef = 0) with hef | hef
  focus
    subst hef
    obtain ⟨hoF, hbF⟩ := cF rfl
    have hnF := okFn_n hoF
    have heF := wFn_eq hoF
    rw [← heF] at hbF
    have hlF := congrArg List.length hbF
    rw [List.length_append] at hlF
    have hwF := wFn_wBs f
    have hgF := wBs_ge f.blocks
    repeat' ((fail_if_success with_reducible refine Stop.mk ?_); (conv => whnf); first | with_reducible refine br_t ?_ | with_reducible refine br_f ?_ | with_reducible refine br_nn ?_ | with_reducible refine br_ns ?_ | with_reducible refine br_not ?_ | ((with_reducible refine br_d (fun h => ?_) (fun h => ?_)) <;> try (exfalso; omega)) | ((with_reducible refine br_e (fun h => ?_) (fun h => ?_)) <;> try (exfalso; omega)) | ((with_reducible refine br_n (fun h => ?_) (fun h => ?_)) <;> try (exfalso; omega)) | with_reducible refine drw (by kernel_rfl) ?_ | with_reducible refine chk (by kernel_rfl) ?_ | with_reducible refine stop ?_)
    all_goals refine Stop.mk ?_
    refine call_fn [] (check7_fn _ A3 c3 f hf (by omega) (by omega)) rfl trivial (by decide) ?_
    rintro sv H' G' ⟨e', rfl, he', rfl, rfl⟩ -
    obtain rfl := he'.2 hoF
    refine ⟨Nat.le_of_ble_eq_true rfl, ?_⟩
    repeat' ((fail_if_success with_reducible refine Stop.mk ?_); (conv => whnf); first | with_reducible refine br_t ?_ | with_reducible refine br_f ?_ | with_reducible refine br_nn ?_ | with_reducible refine br_ns ?_ | with_reducible refine br_not ?_ | ((with_reducible refine br_d (fun h => ?_) (fun h => ?_)) <;> try (exfalso; omega)) | ((with_reducible refine br_e (fun h => ?_) (fun h => ?_)) <;> try (exfalso; omega)) | ((with_reducible refine br_n (fun h => ?_) (fun h => ?_)) <;> try (exfalso; omega)) | with_reducible refine drw (by kernel_rfl) ?_ | with_reducible refine chk (by kernel_rfl) ?_ | with_reducible refine stop ?_)
    all_goals refine Stop.mk ?_
    refine call_fn [] (rputFunc_fn _ A3 c3 f hf (by omega) (by omega) (okFn_ops hoF)) rfl trivial (by decide) ?_
    rintro sv H' G' ⟨⟨Ap, cp, rfl, hp⟩, rfl⟩ hg
    refine ⟨Nat.le_of_ble_eq_true rfl, ?_⟩
    replace hsb := hsb.to hg
    replace hC1 := hC1.to hg
    replace hC2 := hC2.to hg
    replace hm := hm.to hg
    clear hg hf
    repeat' ((fail_if_success with_reducible refine Stop.mk ?_); (conv => whnf); first | with_reducible refine br_t ?_ | with_reducible refine br_f ?_ | with_reducible refine br_nn ?_ | with_reducible refine br_ns ?_ | with_reducible refine br_not ?_ | ((with_reducible refine br_d (fun h => ?_) (fun h => ?_)) <;> try (exfalso; omega)) | ((with_reducible refine br_e (fun h => ?_) (fun h => ?_)) <;> try (exfalso; omega)) | ((with_reducible refine br_n (fun h => ?_) (fun h => ?_)) <;> try (exfalso; omega)) | with_reducible refine drw (by kernel_rfl) ?_ | with_reducible refine chk (by kernel_rfl) ?_ | with_reducible refine stop ?_)
    all_goals refine Stop.mk ?_
    refine call_fn [0] (read18_fn hC1 hsb hp) rfl ⟨rfl, trivial⟩ (by decide) ?_
    rintro sv H' G' ⟨rfl, rfl, rfl⟩ -
    refine ⟨Nat.le_of_ble_eq_true rfl, ?_⟩
    rw [rd_true hbF]
    clear hp he' hgF hwF hbF hoF hnF hlF heF
    repeat' ((fail_if_success with_reducible refine Stop.mk ?_); (conv => whnf); first | with_reducible refine br_t ?_ | with_reducible refine br_f ?_ | with_reducible refine br_nn ?_ | with_reducible refine br_ns ?_ | with_reducible refine br_not ?_ | ((with_reducible refine br_d (fun h => ?_) (fun h => ?_)) <;> try (exfalso; omega)) | ((with_reducible refine br_e (fun h => ?_) (fun h => ?_)) <;> try (exfalso; omega)) | ((with_reducible refine br_n (fun h => ?_) (fun h => ?_)) <;> try (exfalso; omega)) | with_reducible refine drw (by kernel_rfl) ?_ | with_reducible refine chk (by kernel_rfl) ?_ | with_reducible refine stop ?_)
    all_goals refine Stop.mk ?_
  rotate_left
  focus
    repeat' ((fail_if_success with_reducible refine Stop.mk ?_); (conv => whnf); first | with_reducible refine br_t ?_ | with_reducible refine br_f ?_ | with_reducible refine br_nn ?_ | with_reducible refine br_ns ?_ | with_reducible refine br_not ?_ | ((with_reducible refine br_d (fun h => ?_) (fun h => ?_)) <;> try (exfalso; omega)) | ((with_reducible refine br_e (fun h => ?_) (fun h => ?_)) <;> try (exfalso; omega)) | ((with_reducible refine br_n (fun h => ?_) (fun h => ?_)) <;> try (exfalso; omega)) | with_reducible refine drw (by kernel_rfl) ?_ | with_reducible refine chk (by kernel_rfl) ?_ | with_reducible refine stop ?_)
    all_goals refine Stop.mk ?_
  all_goals
    clear cF
    refine call_fn [1] (perr_fn (p := (rm, em))) rfl ⟨rfl, trivial⟩ (by decide) ?_
    rintro sv H' G' ⟨rfl, rfl, rfl⟩ -
    refine ⟨Nat.le_of_ble_eq_true rfl, ?_⟩
    dsimp only
    rcases Decidable.em (em = 0) with hem | hem
    focus
      subst hem
      obtain ⟨hoM, hbM⟩ := cM rfl
      have hnM := okMFn_n hoM
      have heM := wMFn_eq hoM
      rw [← heM] at hbM
      have hlM := congrArg List.length hbM
      rw [List.length_append] at hlM
      have hwM := wMFn_wMBs m
      have hgM := wMBs_ge m.blocks
      repeat' ((fail_if_success with_reducible refine Stop.mk ?_); (conv => whnf); first | with_reducible refine br_t ?_ | with_reducible refine br_f ?_ | with_reducible refine br_nn ?_ | with_reducible refine br_ns ?_ | with_reducible refine br_not ?_ | ((with_reducible refine br_d (fun h => ?_) (fun h => ?_)) <;> try (exfalso; omega)) | ((with_reducible refine br_e (fun h => ?_) (fun h => ?_)) <;> try (exfalso; omega)) | ((with_reducible refine br_n (fun h => ?_) (fun h => ?_)) <;> try (exfalso; omega)) | with_reducible refine drw (by kernel_rfl) ?_ | with_reducible refine chk (by kernel_rfl) ?_ | with_reducible refine stop ?_)
      all_goals refine Stop.mk ?_
      refine call_fn [] (check8_fn _ A4 c4 m hm (by omega) (by omega)) rfl trivial (by decide) ?_
      rintro sv H' G' ⟨e', rfl, he', rfl, rfl⟩ -
      obtain rfl := he'.2 hoM
      refine ⟨Nat.le_of_ble_eq_true rfl, ?_⟩
      repeat' ((fail_if_success with_reducible refine Stop.mk ?_); (conv => whnf); first | with_reducible refine br_t ?_ | with_reducible refine br_f ?_ | with_reducible refine br_nn ?_ | with_reducible refine br_ns ?_ | with_reducible refine br_not ?_ | ((with_reducible refine br_d (fun h => ?_) (fun h => ?_)) <;> try (exfalso; omega)) | ((with_reducible refine br_e (fun h => ?_) (fun h => ?_)) <;> try (exfalso; omega)) | ((with_reducible refine br_n (fun h => ?_) (fun h => ?_)) <;> try (exfalso; omega)) | with_reducible refine drw (by kernel_rfl) ?_ | with_reducible refine chk (by kernel_rfl) ?_ | with_reducible refine stop ?_)
      all_goals refine Stop.mk ?_
      refine call_fn [] (rputMFunc_fn _ A4 c4 m hm (by omega) (by omega)) rfl trivial (by decide) ?_
      rintro sv H' G' ⟨⟨Ap, cp, rfl, hp⟩, rfl⟩ hg
      refine ⟨Nat.le_of_ble_eq_true rfl, ?_⟩
      replace hsb := hsb.to hg
      replace hC2 := hC2.to hg
      clear hg hm
      repeat' ((fail_if_success with_reducible refine Stop.mk ?_); (conv => whnf); first | with_reducible refine br_t ?_ | with_reducible refine br_f ?_ | with_reducible refine br_nn ?_ | with_reducible refine br_ns ?_ | with_reducible refine br_not ?_ | ((with_reducible refine br_d (fun h => ?_) (fun h => ?_)) <;> try (exfalso; omega)) | ((with_reducible refine br_e (fun h => ?_) (fun h => ?_)) <;> try (exfalso; omega)) | ((with_reducible refine br_n (fun h => ?_) (fun h => ?_)) <;> try (exfalso; omega)) | with_reducible refine drw (by kernel_rfl) ?_ | with_reducible refine chk (by kernel_rfl) ?_ | with_reducible refine stop ?_)
      all_goals refine Stop.mk ?_
      refine call_fn [1] (read18_fn hC2 hsb hp) rfl ⟨rfl, trivial⟩ (by decide) ?_
      rintro sv H' G' ⟨rfl, rfl, rfl⟩ -
      refine ⟨Nat.le_of_ble_eq_true rfl, ?_⟩
      rw [rd_true hbM]
      clear hp he' hgM hwM hbM hoM hnM hlM heM
      repeat' ((fail_if_success with_reducible refine Stop.mk ?_); (conv => whnf); first | with_reducible refine br_t ?_ | with_reducible refine br_f ?_ | with_reducible refine br_nn ?_ | with_reducible refine br_ns ?_ | with_reducible refine br_not ?_ | ((with_reducible refine br_d (fun h => ?_) (fun h => ?_)) <;> try (exfalso; omega)) | ((with_reducible refine br_e (fun h => ?_) (fun h => ?_)) <;> try (exfalso; omega)) | ((with_reducible refine br_n (fun h => ?_) (fun h => ?_)) <;> try (exfalso; omega)) | with_reducible refine drw (by kernel_rfl) ?_ | with_reducible refine chk (by kernel_rfl) ?_ | with_reducible refine stop ?_)
      all_goals refine Stop.mk ?_
      exact fin_id hE 0 rfl rfl rfl rfl ⟨rfl, rfl⟩
    focus
      repeat' ((fail_if_success with_reducible refine Stop.mk ?_); (conv => whnf); first | with_reducible refine br_t ?_ | with_reducible refine br_f ?_ | with_reducible refine br_nn ?_ | with_reducible refine br_ns ?_ | with_reducible refine br_not ?_ | ((with_reducible refine br_d (fun h => ?_) (fun h => ?_)) <;> try (exfalso; omega)) | ((with_reducible refine br_e (fun h => ?_) (fun h => ?_)) <;> try (exfalso; omega)) | ((with_reducible refine br_n (fun h => ?_) (fun h => ?_)) <;> try (exfalso; omega)) | with_reducible refine drw (by kernel_rfl) ?_ | with_reducible refine chk (by kernel_rfl) ?_ | with_reducible refine stop ?_)
      all_goals refine Stop.mk ?_
      exact fin_id hE 0 rfl rfl rfl rfl ⟨rfl, rfl⟩
end Go.Proofs.Ytknpjbbkageiiaa.Cu
