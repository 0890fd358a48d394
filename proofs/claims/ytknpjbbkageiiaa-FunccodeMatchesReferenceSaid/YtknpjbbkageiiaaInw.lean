/- Inw: InF, InG in one text. -/
import Derived.Test.YtknpjbbkageiiaaInz
import Derived.Test.YtknpjbbkageiiaaIny
namespace Go.Proofs.Ytknpjbbkageiiaa.Cu
open Go Go.SX Go.Proofs.Ytknpjbbkageiiaa.VT
set_option maxRecDepth 100000
set_option linter.unusedVariables false
set_option linter.unusedSimpArgs false

theorem okIns_ok {regs : Int} {i : Ins} (h : okIns regs i) (hr : regs ≤ 9223372036854775807) : i.ok := by
  obtain ⟨⟨h1, h2⟩, h3, h4, h5, h6⟩ := h
  unfold known at h1
  refine ⟨by unfold in64; omega, ?_, ?_, ?_, ?_⟩
  · unfold in64; split at h3 <;> omega
  · unfold in64; split at h4 <;> omega
  · unfold in64; split at h5 <;> omega
  · split at h6
    · exact h6
    · unfold in64; omega
theorem okMac_ok {regs slots : Int} {i : Mac} (h : okMac regs slots i) (hr : regs ≤ 9223372036854775807) : i.ok := by
  obtain ⟨⟨h1, h2⟩, h⟩ := h
  unfold known at h1
  split at h
  · obtain ⟨⟨h3, h4, h5, h6⟩, ⟨h7, h8⟩, _⟩ := h
    have h9 := h7.1.1
    have h10 := h7.2
    have h11 := h8.1.1
    have h12 := h8.2
    refine ⟨?_, ?_, ?_, ?_, ?_, ?_, ?_⟩ <;> unfold in64 <;> omega
  · obtain ⟨⟨h7, h8⟩, h3, h4, h5, h6⟩ := h
    refine ⟨by unfold in64; omega, ?_, ?_, ?_, ?_, by unfold in64; omega, by unfold in64; omega⟩
    · unfold in64; split at h3 <;> omega
    · unfold in64; split at h4 <;> omega
    · unfold in64; split at h5 <;> omega
    · split at h6
      · exact h6
      · unfold in64; omega
theorem rd_true {b w r : List Int} (h : b = w ++ r) : decide (b.length - (r, (0 : Int)).1.length = w.length ∧ b.take w.length = w) = true := by
  subst h
  refine decide_eq_true ⟨?_, by simp⟩
  dsimp only
  rw [List.length_append]; omega
theorem sh1 : ∀ e : Int, e = 1 → e ≠ 0 := by omega
set_option maxHeartbeats 8000000 in
theorem ican_fn (G : Gh) (A : Option Addr) (c : Nat) (b : List Int) (regs slots blocks : Int) (hbb : isB b) (hsb : SlB G A c b) (h1 : 0 ≤ regs ∧ regs < 65536) (h2 : 0 ≤ slots ∧ slots < 65536) (h3 : 0 ≤ blocks ∧ blocks < 65536) :
    Ct Try.prog 6 [.v (.slice A b.length c), .v (.int .u16 regs), .v (.int .u16 slots), .v (.int .u16 blocks)] [] G fun sv H' G' => sv = .v (.bool true) ∧ H' = [] := by
  have hcapb := hsb.cap
  have htop := hsb.top
  have cI := (Cod.ins (sh := fun e => e = 1) rfl sh1 regs (by omega)).ca b hbb
  have cM := (Cod.mac (sh := fun e => e = 1) rfl sh1 regs slots (by omega)).ca b hbb
  have cT := (Cod.trm (sh := fun e => e = 1) rfl sh1 regs blocks (by omega) (by omega)).ca b hbb
  have nI := @sIns_no regs (b, 0)
  have nM := @sMac_no regs slots (b, 0)
  have nT := @sTrm_no regs blocks (b, 0)
  refine fn_of follows [] Try.func6 rfl rfl fun E hE => ?_
  repeat' ((fail_if_success with_reducible refine Stop.mk ?_); (conv => whnf); with_reducible first | refine br_t ?_ | refine br_f ?_ | refine br_nn ?_ | refine br_ns ?_ | refine br_not ?_ | refine br_d (fun h => ?_) (fun h => ?_) | refine br_e (fun h => ?_) (fun h => ?_) | refine br_n (fun h => ?_) (fun h => ?_) | refine drw (by kernel_rfl) ?_ | refine chk (by kernel_rfl) ?_ | refine stop ?_)
  all_goals refine Stop.mk ?_
  refine call_fn [] (awake17_fn _) rfl trivial (by decide) ?_
  rintro sv H' G' ⟨rfl, rfl⟩ hg
  refine ⟨Nat.le_of_ble_eq_true rfl, ?_⟩
  replace hsb := hsb.to hg
  clear hg
  repeat' ((fail_if_success with_reducible refine Stop.mk ?_); (conv => whnf); with_reducible first | refine br_t ?_ | refine br_f ?_ | refine br_nn ?_ | refine br_ns ?_ | refine br_not ?_ | refine br_d (fun h => ?_) (fun h => ?_) | refine br_e (fun h => ?_) (fun h => ?_) | refine br_n (fun h => ?_) (fun h => ?_) | refine drw (by kernel_rfl) ?_ | refine chk (by kernel_rfl) ?_ | refine stop ?_)
  all_goals refine Stop.mk ?_
  all_goals try
    refine call_fn [] (awake17_fn _) rfl trivial (by decide) ?_
    rintro sv H' G' ⟨rfl, rfl⟩ -
    refine ⟨Nat.le_of_ble_eq_true rfl, ?_⟩
    repeat' ((fail_if_success with_reducible refine Stop.mk ?_); (conv => whnf); with_reducible first | refine br_t ?_ | refine br_f ?_ | refine br_nn ?_ | refine br_ns ?_ | refine br_not ?_ | refine br_d (fun h => ?_) (fun h => ?_) | refine br_e (fun h => ?_) (fun h => ?_) | refine br_n (fun h => ?_) (fun h => ?_) | refine drw (by kernel_rfl) ?_ | refine chk (by kernel_rfl) ?_ | refine stop ?_)
    all_goals refine Stop.mk ?_
    exact fin_all ⟨rfl, rfl⟩
  refine call_fn [] (pnew_fn _ A b c hbb hsb (by omega)) rfl trivial (by decide) ?_
  rintro sv H' G' ⟨A1, c1, rfl, rfl, hC1⟩ hg
  refine ⟨Nat.le_of_ble_eq_true rfl, ?_⟩
  replace hsb := hsb.to hg
  clear hg
  repeat' ((fail_if_success with_reducible refine Stop.mk ?_); (conv => whnf); with_reducible first | refine br_t ?_ | refine br_f ?_ | refine br_nn ?_ | refine br_ns ?_ | refine br_not ?_ | refine br_d (fun h => ?_) (fun h => ?_) | refine br_e (fun h => ?_) (fun h => ?_) | refine br_n (fun h => ?_) (fun h => ?_) | refine drw (by kernel_rfl) ?_ | refine chk (by kernel_rfl) ?_ | refine stop ?_)
  all_goals refine Stop.mk ?_
  refine call_fn [] (pnew_fn _ A b c hbb hsb (by omega)) rfl trivial (by decide) ?_
  rintro sv H' G' ⟨A2, c2, rfl, rfl, hC2⟩ hg
  refine ⟨Nat.le_of_ble_eq_true rfl, ?_⟩
  replace hsb := hsb.to hg
  replace hC1 := hC1.to hg
  clear hg
  repeat' ((fail_if_success with_reducible refine Stop.mk ?_); (conv => whnf); with_reducible first | refine br_t ?_ | refine br_f ?_ | refine br_nn ?_ | refine br_ns ?_ | refine br_not ?_ | refine br_d (fun h => ?_) (fun h => ?_) | refine br_e (fun h => ?_) (fun h => ?_) | refine br_n (fun h => ?_) (fun h => ?_) | refine drw (by kernel_rfl) ?_ | refine chk (by kernel_rfl) ?_ | refine stop ?_)
  all_goals refine Stop.mk ?_
  refine call_fn [] (pnew_fn _ A b c hbb hsb (by omega)) rfl trivial (by decide) ?_
  rintro sv H' G' ⟨A3, c3, rfl, rfl, hC3⟩ hg
  refine ⟨Nat.le_of_ble_eq_true rfl, ?_⟩
  replace hsb := hsb.to hg
  replace hC1 := hC1.to hg
  replace hC2 := hC2.to hg
  clear hg
  repeat' ((fail_if_success with_reducible refine Stop.mk ?_); (conv => whnf); with_reducible first | refine br_t ?_ | refine br_f ?_ | refine br_nn ?_ | refine br_ns ?_ | refine br_not ?_ | refine br_d (fun h => ?_) (fun h => ?_) | refine br_e (fun h => ?_) (fun h => ?_) | refine br_n (fun h => ?_) (fun h => ?_) | refine drw (by kernel_rfl) ?_ | refine chk (by kernel_rfl) ?_ | refine stop ?_)
  all_goals refine Stop.mk ?_
  have hw1 : IntKind.i64.wrap regs = regs := i64_in (by omega) (by omega)
  have hw2 : IntKind.i64.wrap slots = slots := i64_in (by omega) (by omega)
  have hw3 : IntKind.i64.wrap blocks = blocks := i64_in (by omega) (by omega)
  rw [hw1]
  refine call_fn [0] (ins_fn regs hC1 (by omega)) rfl ⟨rfl, trivial⟩ (by decide) ?_
  rintro sv H' G' ⟨rfl, rfl, rfl⟩ -
  refine ⟨Nat.le_of_ble_eq_true rfl, ?_⟩
  replace hC1 := hC1.next (sIns_suf regs _)
  generalize sIns regs (b, 0) = si at *
  obtain ⟨i, ri, ei⟩ := si
  dsimp only at cI nI hC1 ⊢
  rcases Decidable.em (ei = 0) with hei | hei
  focus
    subst hei
    obtain ⟨hoI, hbI⟩ := cI rfl
    have hiok := okIns_ok hoI (by omega)
    repeat' ((fail_if_success with_reducible refine Stop.mk ?_); (conv => whnf); first | with_reducible refine br_t ?_ | with_reducible refine br_f ?_ | with_reducible refine br_nn ?_ | with_reducible refine br_ns ?_ | with_reducible refine br_not ?_ | ((with_reducible refine br_d (fun h => ?_) (fun h => ?_)) <;> try (exfalso; omega)) | ((with_reducible refine br_e (fun h => ?_) (fun h => ?_)) <;> try (exfalso; omega)) | ((with_reducible refine br_n (fun h => ?_) (fun h => ?_)) <;> try (exfalso; omega)) | with_reducible refine drw (by kernel_rfl) ?_ | with_reducible refine chk (by kernel_rfl) ?_ | with_reducible refine stop ?_)
    all_goals refine Stop.mk ?_
    refine call_fn [0] (perr_fn) rfl ⟨rfl, trivial⟩ (by decide) ?_
    rintro sv H' G' ⟨rfl, rfl, rfl⟩ -
    refine ⟨Nat.le_of_ble_eq_true rfl, ?_⟩
    dsimp only
    repeat' ((fail_if_success with_reducible refine Stop.mk ?_); (conv => whnf); first | with_reducible refine br_t ?_ | with_reducible refine br_f ?_ | with_reducible refine br_nn ?_ | with_reducible refine br_ns ?_ | with_reducible refine br_not ?_ | ((with_reducible refine br_d (fun h => ?_) (fun h => ?_)) <;> try (exfalso; omega)) | ((with_reducible refine br_e (fun h => ?_) (fun h => ?_)) <;> try (exfalso; omega)) | ((with_reducible refine br_n (fun h => ?_) (fun h => ?_)) <;> try (exfalso; omega)) | with_reducible refine drw (by kernel_rfl) ?_ | with_reducible refine chk (by kernel_rfl) ?_ | with_reducible refine stop ?_)
    all_goals refine Stop.mk ?_
    rw [hw1]
    refine call_fn [] (r7Instr_fn _ i regs hiok.2.2.2.2) rfl trivial (by decide) ?_
    rintro sv H' G' ⟨e', rfl, he', rfl, rfl⟩ -
    obtain rfl := he'.2 hoI
    refine ⟨Nat.le_of_ble_eq_true rfl, ?_⟩
    repeat' ((fail_if_success with_reducible refine Stop.mk ?_); (conv => whnf); first | with_reducible refine br_t ?_ | with_reducible refine br_f ?_ | with_reducible refine br_nn ?_ | with_reducible refine br_ns ?_ | with_reducible refine br_not ?_ | ((with_reducible refine br_d (fun h => ?_) (fun h => ?_)) <;> try (exfalso; omega)) | ((with_reducible refine br_e (fun h => ?_) (fun h => ?_)) <;> try (exfalso; omega)) | ((with_reducible refine br_n (fun h => ?_) (fun h => ?_)) <;> try (exfalso; omega)) | with_reducible refine drw (by kernel_rfl) ?_ | with_reducible refine chk (by kernel_rfl) ?_ | with_reducible refine stop ?_)
    all_goals refine Stop.mk ?_
    refine call_fn [] (r17PutInstr_fn _ i hiok hoI.1.2) rfl trivial (by decide) ?_
    rintro sv H' G' ⟨rfl, rfl, rfl⟩ -
    refine ⟨Nat.le_of_ble_eq_true rfl, ?_⟩
    repeat' ((fail_if_success with_reducible refine Stop.mk ?_); (conv => whnf); first | with_reducible refine br_t ?_ | with_reducible refine br_f ?_ | with_reducible refine br_nn ?_ | with_reducible refine br_ns ?_ | with_reducible refine br_not ?_ | ((with_reducible refine br_d (fun h => ?_) (fun h => ?_)) <;> try (exfalso; omega)) | ((with_reducible refine br_e (fun h => ?_) (fun h => ?_)) <;> try (exfalso; omega)) | ((with_reducible refine br_n (fun h => ?_) (fun h => ?_)) <;> try (exfalso; omega)) | with_reducible refine drw (by kernel_rfl) ?_ | with_reducible refine chk (by kernel_rfl) ?_ | with_reducible refine stop ?_)
    all_goals refine Stop.mk ?_
    first
      | refine call_fz 4 rfl (byts_one _) (enters_of Try.func35 rfl rfl) fun Ax cx Gx hgx hsx => ?_
    (conv => whnf)
    replace hsb := hsb.to hgx
    replace hC1 := hC1.to hgx
    replace hC2 := hC2.to hgx
    replace hC3 := hC3.to hgx
    have hwant := SlB.of (putInsB i) hsx rfl rfl rfl
    clear hgx hsx
    refine call_fn [0] (read17_fn hC1 hsb hwant) rfl ⟨rfl, trivial⟩ (by decide) ?_
    rintro sv H' G' ⟨rfl, rfl, rfl⟩ -
    refine ⟨Nat.le_of_ble_eq_true rfl, ?_⟩
    rw [rd_true hbI]
    clear hwant he'
    repeat' ((fail_if_success with_reducible refine Stop.mk ?_); (conv => whnf); first | with_reducible refine br_t ?_ | with_reducible refine br_f ?_ | with_reducible refine br_nn ?_ | with_reducible refine br_ns ?_ | with_reducible refine br_not ?_ | ((with_reducible refine br_d (fun h => ?_) (fun h => ?_)) <;> try (exfalso; omega)) | ((with_reducible refine br_e (fun h => ?_) (fun h => ?_)) <;> try (exfalso; omega)) | ((with_reducible refine br_n (fun h => ?_) (fun h => ?_)) <;> try (exfalso; omega)) | with_reducible refine drw (by kernel_rfl) ?_ | with_reducible refine chk (by kernel_rfl) ?_ | with_reducible refine stop ?_)
    all_goals refine Stop.mk ?_
    refine call_fn [0] (perr_fn) rfl ⟨rfl, trivial⟩ (by decide) ?_
    rintro sv H' G' ⟨rfl, rfl, rfl⟩ -
    refine ⟨Nat.le_of_ble_eq_true rfl, ?_⟩
    dsimp only
    repeat' ((fail_if_success with_reducible refine Stop.mk ?_); (conv => whnf); first | with_reducible refine br_t ?_ | with_reducible refine br_f ?_ | with_reducible refine br_nn ?_ | with_reducible refine br_ns ?_ | with_reducible refine br_not ?_ | ((with_reducible refine br_d (fun h => ?_) (fun h => ?_)) <;> try (exfalso; omega)) | ((with_reducible refine br_e (fun h => ?_) (fun h => ?_)) <;> try (exfalso; omega)) | ((with_reducible refine br_n (fun h => ?_) (fun h => ?_)) <;> try (exfalso; omega)) | with_reducible refine drw (by kernel_rfl) ?_ | with_reducible refine chk (by kernel_rfl) ?_ | with_reducible refine stop ?_)
    all_goals refine Stop.mk ?_
  rotate_left
  focus
    obtain rfl := nI hei
    repeat' ((fail_if_success with_reducible refine Stop.mk ?_); (conv => whnf); first | with_reducible refine br_t ?_ | with_reducible refine br_f ?_ | with_reducible refine br_nn ?_ | with_reducible refine br_ns ?_ | with_reducible refine br_not ?_ | ((with_reducible refine br_d (fun h => ?_) (fun h => ?_)) <;> try (exfalso; omega)) | ((with_reducible refine br_e (fun h => ?_) (fun h => ?_)) <;> try (exfalso; omega)) | ((with_reducible refine br_n (fun h => ?_) (fun h => ?_)) <;> try (exfalso; omega)) | with_reducible refine drw (by kernel_rfl) ?_ | with_reducible refine chk (by kernel_rfl) ?_ | with_reducible refine stop ?_)
    all_goals refine Stop.mk ?_
    refine call_fn [0] (perr_fn) rfl ⟨rfl, trivial⟩ (by decide) ?_
    rintro sv H' G' ⟨rfl, rfl, rfl⟩ -
    refine ⟨Nat.le_of_ble_eq_true rfl, ?_⟩
    dsimp only
    repeat' ((fail_if_success with_reducible refine Stop.mk ?_); (conv => whnf); first | with_reducible refine br_t ?_ | with_reducible refine br_f ?_ | with_reducible refine br_nn ?_ | with_reducible refine br_ns ?_ | with_reducible refine br_not ?_ | ((with_reducible refine br_d (fun h => ?_) (fun h => ?_)) <;> try (exfalso; omega)) | ((with_reducible refine br_e (fun h => ?_) (fun h => ?_)) <;> try (exfalso; omega)) | ((with_reducible refine br_n (fun h => ?_) (fun h => ?_)) <;> try (exfalso; omega)) | with_reducible refine drw (by kernel_rfl) ?_ | with_reducible refine chk (by kernel_rfl) ?_ | with_reducible refine stop ?_)
    all_goals refine Stop.mk ?_
    refine call_fn [0] (perr_fn) rfl ⟨rfl, trivial⟩ (by decide) ?_
    rintro sv H' G' ⟨rfl, rfl, rfl⟩ -
    refine ⟨Nat.le_of_ble_eq_true rfl, ?_⟩
    dsimp only
    repeat' ((fail_if_success with_reducible refine Stop.mk ?_); (conv => whnf); first | with_reducible refine br_t ?_ | with_reducible refine br_f ?_ | with_reducible refine br_nn ?_ | with_reducible refine br_ns ?_ | with_reducible refine br_not ?_ | ((with_reducible refine br_d (fun h => ?_) (fun h => ?_)) <;> try (exfalso; omega)) | ((with_reducible refine br_e (fun h => ?_) (fun h => ?_)) <;> try (exfalso; omega)) | ((with_reducible refine br_n (fun h => ?_) (fun h => ?_)) <;> try (exfalso; omega)) | with_reducible refine drw (by kernel_rfl) ?_ | with_reducible refine chk (by kernel_rfl) ?_ | with_reducible refine stop ?_)
    all_goals refine Stop.mk ?_
    all_goals try (exfalso; rename_i h; first | exact h rfl | exact h (by decide))
  all_goals
    clear cI nI
    rw [hw1, hw2]
    refine call_fn [1] (mach_fn regs slots hC2 (by omega)) rfl ⟨rfl, trivial⟩ (by decide) ?_
    rintro sv H' G' ⟨rfl, rfl, rfl⟩ -
    refine ⟨Nat.le_of_ble_eq_true rfl, ?_⟩
    replace hC2 := hC2.next (sMac_suf regs slots _)
    generalize sMac regs slots (b, 0) = sm at *
    obtain ⟨m, rm, em⟩ := sm
    dsimp only at cM nM hC2 ⊢
    rcases Decidable.em (em = 0) with hem | hem
    focus
      subst hem
      obtain ⟨hoM, hbM⟩ := cM rfl
      have hmok := okMac_ok hoM (by omega)
      repeat' ((fail_if_success with_reducible refine Stop.mk ?_); (conv => whnf); first | with_reducible refine br_t ?_ | with_reducible refine br_f ?_ | with_reducible refine br_nn ?_ | with_reducible refine br_ns ?_ | with_reducible refine br_not ?_ | ((with_reducible refine br_d (fun h => ?_) (fun h => ?_)) <;> try (exfalso; omega)) | ((with_reducible refine br_e (fun h => ?_) (fun h => ?_)) <;> try (exfalso; omega)) | ((with_reducible refine br_n (fun h => ?_) (fun h => ?_)) <;> try (exfalso; omega)) | with_reducible refine drw (by kernel_rfl) ?_ | with_reducible refine chk (by kernel_rfl) ?_ | with_reducible refine stop ?_)
      all_goals refine Stop.mk ?_
      refine call_fn [1] (perr_fn) rfl ⟨rfl, trivial⟩ (by decide) ?_
      rintro sv H' G' ⟨rfl, rfl, rfl⟩ -
      refine ⟨Nat.le_of_ble_eq_true rfl, ?_⟩
      dsimp only
      repeat' ((fail_if_success with_reducible refine Stop.mk ?_); (conv => whnf); first | with_reducible refine br_t ?_ | with_reducible refine br_f ?_ | with_reducible refine br_nn ?_ | with_reducible refine br_ns ?_ | with_reducible refine br_not ?_ | ((with_reducible refine br_d (fun h => ?_) (fun h => ?_)) <;> try (exfalso; omega)) | ((with_reducible refine br_e (fun h => ?_) (fun h => ?_)) <;> try (exfalso; omega)) | ((with_reducible refine br_n (fun h => ?_) (fun h => ?_)) <;> try (exfalso; omega)) | with_reducible refine drw (by kernel_rfl) ?_ | with_reducible refine chk (by kernel_rfl) ?_ | with_reducible refine stop ?_)
      all_goals refine Stop.mk ?_
      rw [hw1, hw2]
      refine call_fn [] (r8Instr_fn _ m regs slots hmok (by omega) (by omega)) rfl trivial (by decide) ?_
      rintro sv H' G' ⟨e', rfl, he', rfl, rfl⟩ -
      obtain rfl := he'.2 hoM
      refine ⟨Nat.le_of_ble_eq_true rfl, ?_⟩
      repeat' ((fail_if_success with_reducible refine Stop.mk ?_); (conv => whnf); first | with_reducible refine br_t ?_ | with_reducible refine br_f ?_ | with_reducible refine br_nn ?_ | with_reducible refine br_ns ?_ | with_reducible refine br_not ?_ | ((with_reducible refine br_d (fun h => ?_) (fun h => ?_)) <;> try (exfalso; omega)) | ((with_reducible refine br_e (fun h => ?_) (fun h => ?_)) <;> try (exfalso; omega)) | ((with_reducible refine br_n (fun h => ?_) (fun h => ?_)) <;> try (exfalso; omega)) | with_reducible refine drw (by kernel_rfl) ?_ | with_reducible refine chk (by kernel_rfl) ?_ | with_reducible refine stop ?_)
      all_goals refine Stop.mk ?_
      refine call_fn [] (r17Put_fn _ m hmok) rfl trivial (by decide) ?_
      rintro sv H' G' ⟨rfl, rfl, rfl⟩ -
      refine ⟨Nat.le_of_ble_eq_true rfl, ?_⟩
      repeat' ((fail_if_success with_reducible refine Stop.mk ?_); (conv => whnf); first | with_reducible refine br_t ?_ | with_reducible refine br_f ?_ | with_reducible refine br_nn ?_ | with_reducible refine br_ns ?_ | with_reducible refine br_not ?_ | ((with_reducible refine br_d (fun h => ?_) (fun h => ?_)) <;> try (exfalso; omega)) | ((with_reducible refine br_e (fun h => ?_) (fun h => ?_)) <;> try (exfalso; omega)) | ((with_reducible refine br_n (fun h => ?_) (fun h => ?_)) <;> try (exfalso; omega)) | with_reducible refine drw (by kernel_rfl) ?_ | with_reducible refine chk (by kernel_rfl) ?_ | with_reducible refine stop ?_)
      all_goals refine Stop.mk ?_
      first
        | refine call_fz 4 rfl (byts_one _) (enters_of Try.func35 rfl rfl) fun Ax cx Gx hgx hsx => ?_
        | refine call_fz 5 rfl (byts_one _) (enters_of Try.func35 rfl rfl) fun Ax cx Gx hgx hsx => ?_
        | refine call_fz 6 rfl (byts_one _) (enters_of Try.func35 rfl rfl) fun Ax cx Gx hgx hsx => ?_
      (conv => whnf)
      replace hsb := hsb.to hgx
      replace hC2 := hC2.to hgx
      replace hC3 := hC3.to hgx
      have hwant := SlB.of (putMacB m) hsx rfl rfl rfl
      clear hgx hsx
      refine call_fn [1] (read17_fn hC2 hsb hwant) rfl ⟨rfl, trivial⟩ (by decide) ?_
      rintro sv H' G' ⟨rfl, rfl, rfl⟩ -
      refine ⟨Nat.le_of_ble_eq_true rfl, ?_⟩
      rw [rd_true hbM]
      clear hwant he'
      repeat' ((fail_if_success with_reducible refine Stop.mk ?_); (conv => whnf); first | with_reducible refine br_t ?_ | with_reducible refine br_f ?_ | with_reducible refine br_nn ?_ | with_reducible refine br_ns ?_ | with_reducible refine br_not ?_ | ((with_reducible refine br_d (fun h => ?_) (fun h => ?_)) <;> try (exfalso; omega)) | ((with_reducible refine br_e (fun h => ?_) (fun h => ?_)) <;> try (exfalso; omega)) | ((with_reducible refine br_n (fun h => ?_) (fun h => ?_)) <;> try (exfalso; omega)) | with_reducible refine drw (by kernel_rfl) ?_ | with_reducible refine chk (by kernel_rfl) ?_ | with_reducible refine stop ?_)
      all_goals refine Stop.mk ?_
      refine call_fn [1] (perr_fn) rfl ⟨rfl, trivial⟩ (by decide) ?_
      rintro sv H' G' ⟨rfl, rfl, rfl⟩ -
      refine ⟨Nat.le_of_ble_eq_true rfl, ?_⟩
      dsimp only
      repeat' ((fail_if_success with_reducible refine Stop.mk ?_); (conv => whnf); first | with_reducible refine br_t ?_ | with_reducible refine br_f ?_ | with_reducible refine br_nn ?_ | with_reducible refine br_ns ?_ | with_reducible refine br_not ?_ | ((with_reducible refine br_d (fun h => ?_) (fun h => ?_)) <;> try (exfalso; omega)) | ((with_reducible refine br_e (fun h => ?_) (fun h => ?_)) <;> try (exfalso; omega)) | ((with_reducible refine br_n (fun h => ?_) (fun h => ?_)) <;> try (exfalso; omega)) | with_reducible refine drw (by kernel_rfl) ?_ | with_reducible refine chk (by kernel_rfl) ?_ | with_reducible refine stop ?_)
      all_goals refine Stop.mk ?_
    rotate_left
    focus
      obtain rfl := nM hem
      repeat' ((fail_if_success with_reducible refine Stop.mk ?_); (conv => whnf); first | with_reducible refine br_t ?_ | with_reducible refine br_f ?_ | with_reducible refine br_nn ?_ | with_reducible refine br_ns ?_ | with_reducible refine br_not ?_ | ((with_reducible refine br_d (fun h => ?_) (fun h => ?_)) <;> try (exfalso; omega)) | ((with_reducible refine br_e (fun h => ?_) (fun h => ?_)) <;> try (exfalso; omega)) | ((with_reducible refine br_n (fun h => ?_) (fun h => ?_)) <;> try (exfalso; omega)) | with_reducible refine drw (by kernel_rfl) ?_ | with_reducible refine chk (by kernel_rfl) ?_ | with_reducible refine stop ?_)
      all_goals refine Stop.mk ?_
      refine call_fn [1] (perr_fn) rfl ⟨rfl, trivial⟩ (by decide) ?_
      rintro sv H' G' ⟨rfl, rfl, rfl⟩ -
      refine ⟨Nat.le_of_ble_eq_true rfl, ?_⟩
      dsimp only
      repeat' ((fail_if_success with_reducible refine Stop.mk ?_); (conv => whnf); first | with_reducible refine br_t ?_ | with_reducible refine br_f ?_ | with_reducible refine br_nn ?_ | with_reducible refine br_ns ?_ | with_reducible refine br_not ?_ | ((with_reducible refine br_d (fun h => ?_) (fun h => ?_)) <;> try (exfalso; omega)) | ((with_reducible refine br_e (fun h => ?_) (fun h => ?_)) <;> try (exfalso; omega)) | ((with_reducible refine br_n (fun h => ?_) (fun h => ?_)) <;> try (exfalso; omega)) | with_reducible refine drw (by kernel_rfl) ?_ | with_reducible refine chk (by kernel_rfl) ?_ | with_reducible refine stop ?_)
      all_goals refine Stop.mk ?_
      refine call_fn [1] (perr_fn) rfl ⟨rfl, trivial⟩ (by decide) ?_
      rintro sv H' G' ⟨rfl, rfl, rfl⟩ -
      refine ⟨Nat.le_of_ble_eq_true rfl, ?_⟩
      dsimp only
      repeat' ((fail_if_success with_reducible refine Stop.mk ?_); (conv => whnf); first | with_reducible refine br_t ?_ | with_reducible refine br_f ?_ | with_reducible refine br_nn ?_ | with_reducible refine br_ns ?_ | with_reducible refine br_not ?_ | ((with_reducible refine br_d (fun h => ?_) (fun h => ?_)) <;> try (exfalso; omega)) | ((with_reducible refine br_e (fun h => ?_) (fun h => ?_)) <;> try (exfalso; omega)) | ((with_reducible refine br_n (fun h => ?_) (fun h => ?_)) <;> try (exfalso; omega)) | with_reducible refine drw (by kernel_rfl) ?_ | with_reducible refine chk (by kernel_rfl) ?_ | with_reducible refine stop ?_)
      all_goals refine Stop.mk ?_
      all_goals try (exfalso; rename_i h; first | exact h rfl | exact h (by decide))
  all_goals
    clear cM nM
    rw [hw1, hw3]
    refine call_fn [2] (term_fn regs blocks hC3 (by omega) (by omega)) rfl ⟨rfl, trivial⟩ (by decide) ?_
    rintro sv H' G' ⟨rfl, rfl, rfl⟩ -
    refine ⟨Nat.le_of_ble_eq_true rfl, ?_⟩
    replace hC3 := hC3.next (sTrm_suf regs blocks _)
    generalize sTrm regs blocks (b, 0) = st at *
    obtain ⟨t, rt, et⟩ := st
    dsimp only at cT nT hC3 ⊢
    repeat' ((fail_if_success with_reducible refine Stop.mk ?_); (conv => whnf); first | with_reducible refine br_t ?_ | with_reducible refine br_f ?_ | with_reducible refine br_nn ?_ | with_reducible refine br_ns ?_ | with_reducible refine br_not ?_ | ((with_reducible refine br_d (fun h => ?_) (fun h => ?_)) <;> try (exfalso; omega)) | ((with_reducible refine br_e (fun h => ?_) (fun h => ?_)) <;> try (exfalso; omega)) | ((with_reducible refine br_n (fun h => ?_) (fun h => ?_)) <;> try (exfalso; omega)) | with_reducible refine drw (by kernel_rfl) ?_ | with_reducible refine chk (by kernel_rfl) ?_ | with_reducible refine stop ?_)
    all_goals refine Stop.mk ?_
    refine call_fn [2] (perr_fn) rfl ⟨rfl, trivial⟩ (by decide) ?_
    rintro sv H' G' ⟨rfl, rfl, rfl⟩ -
    refine ⟨Nat.le_of_ble_eq_true rfl, ?_⟩
    dsimp only
    rcases Decidable.em (et = 0) with het | het
    focus
      subst het
      obtain ⟨hoT, hbT⟩ := cT rfl
      repeat' ((fail_if_success with_reducible refine Stop.mk ?_); (conv => whnf); first | with_reducible refine br_t ?_ | with_reducible refine br_f ?_ | with_reducible refine br_nn ?_ | with_reducible refine br_ns ?_ | with_reducible refine br_not ?_ | ((with_reducible refine br_d (fun h => ?_) (fun h => ?_)) <;> try (exfalso; omega)) | ((with_reducible refine br_e (fun h => ?_) (fun h => ?_)) <;> try (exfalso; omega)) | ((with_reducible refine br_n (fun h => ?_) (fun h => ?_)) <;> try (exfalso; omega)) | with_reducible refine drw (by kernel_rfl) ?_ | with_reducible refine chk (by kernel_rfl) ?_ | with_reducible refine stop ?_)
      all_goals refine Stop.mk ?_
      rw [hw1, hw3]
      refine call_fn [] (r7Term_fn _ t regs blocks) rfl trivial (by decide) ?_
      rintro sv H' G' ⟨e', rfl, he', rfl, rfl⟩ -
      obtain rfl := he'.2 hoT
      refine ⟨Nat.le_of_ble_eq_true rfl, ?_⟩
      repeat' ((fail_if_success with_reducible refine Stop.mk ?_); (conv => whnf); first | with_reducible refine br_t ?_ | with_reducible refine br_f ?_ | with_reducible refine br_nn ?_ | with_reducible refine br_ns ?_ | with_reducible refine br_not ?_ | ((with_reducible refine br_d (fun h => ?_) (fun h => ?_)) <;> try (exfalso; omega)) | ((with_reducible refine br_e (fun h => ?_) (fun h => ?_)) <;> try (exfalso; omega)) | ((with_reducible refine br_n (fun h => ?_) (fun h => ?_)) <;> try (exfalso; omega)) | with_reducible refine drw (by kernel_rfl) ?_ | with_reducible refine chk (by kernel_rfl) ?_ | with_reducible refine stop ?_)
      all_goals refine Stop.mk ?_
      refine call_fn [] (r17PutTerm_fn _ t) rfl trivial (by decide) ?_
      rintro sv H' G' ⟨rfl, rfl, rfl⟩ -
      refine ⟨Nat.le_of_ble_eq_true rfl, ?_⟩
      repeat' ((fail_if_success with_reducible refine Stop.mk ?_); (conv => whnf); first | with_reducible refine br_t ?_ | with_reducible refine br_f ?_ | with_reducible refine br_nn ?_ | with_reducible refine br_ns ?_ | with_reducible refine br_not ?_ | ((with_reducible refine br_d (fun h => ?_) (fun h => ?_)) <;> try (exfalso; omega)) | ((with_reducible refine br_e (fun h => ?_) (fun h => ?_)) <;> try (exfalso; omega)) | ((with_reducible refine br_n (fun h => ?_) (fun h => ?_)) <;> try (exfalso; omega)) | with_reducible refine drw (by kernel_rfl) ?_ | with_reducible refine chk (by kernel_rfl) ?_ | with_reducible refine stop ?_)
      all_goals refine Stop.mk ?_
      first
        | refine call_fz 4 rfl (byts_one _) (enters_of Try.func35 rfl rfl) fun Ax cx Gx hgx hsx => ?_
        | refine call_fz 5 rfl (byts_one _) (enters_of Try.func35 rfl rfl) fun Ax cx Gx hgx hsx => ?_
        | refine call_fz 6 rfl (byts_one _) (enters_of Try.func35 rfl rfl) fun Ax cx Gx hgx hsx => ?_
        | refine call_fz 7 rfl (byts_one _) (enters_of Try.func35 rfl rfl) fun Ax cx Gx hgx hsx => ?_
        | refine call_fz 8 rfl (byts_one _) (enters_of Try.func35 rfl rfl) fun Ax cx Gx hgx hsx => ?_
      (conv => whnf)
      replace hsb := hsb.to hgx
      replace hC3 := hC3.to hgx
      have hwant := SlB.of (putTrmB t) hsx rfl rfl rfl
      clear hgx hsx
      refine call_fn [2] (read17_fn hC3 hsb hwant) rfl ⟨rfl, trivial⟩ (by decide) ?_
      rintro sv H' G' ⟨rfl, rfl, rfl⟩ -
      refine ⟨Nat.le_of_ble_eq_true rfl, ?_⟩
      rw [rd_true hbT]
      clear hwant he'
      repeat' ((fail_if_success with_reducible refine Stop.mk ?_); (conv => whnf); first | with_reducible refine br_t ?_ | with_reducible refine br_f ?_ | with_reducible refine br_nn ?_ | with_reducible refine br_ns ?_ | with_reducible refine br_not ?_ | ((with_reducible refine br_d (fun h => ?_) (fun h => ?_)) <;> try (exfalso; omega)) | ((with_reducible refine br_e (fun h => ?_) (fun h => ?_)) <;> try (exfalso; omega)) | ((with_reducible refine br_n (fun h => ?_) (fun h => ?_)) <;> try (exfalso; omega)) | with_reducible refine drw (by kernel_rfl) ?_ | with_reducible refine chk (by kernel_rfl) ?_ | with_reducible refine stop ?_)
      all_goals refine Stop.mk ?_
      exact fin_id hE 0 rfl rfl rfl rfl ⟨rfl, rfl⟩
    focus
      obtain rfl := nT het
      repeat' ((fail_if_success with_reducible refine Stop.mk ?_); (conv => whnf); first | with_reducible refine br_t ?_ | with_reducible refine br_f ?_ | with_reducible refine br_nn ?_ | with_reducible refine br_ns ?_ | with_reducible refine br_not ?_ | ((with_reducible refine br_d (fun h => ?_) (fun h => ?_)) <;> try (exfalso; omega)) | ((with_reducible refine br_e (fun h => ?_) (fun h => ?_)) <;> try (exfalso; omega)) | ((with_reducible refine br_n (fun h => ?_) (fun h => ?_)) <;> try (exfalso; omega)) | with_reducible refine drw (by kernel_rfl) ?_ | with_reducible refine chk (by kernel_rfl) ?_ | with_reducible refine stop ?_)
      all_goals refine Stop.mk ?_
      all_goals try (exfalso; rename_i h; first | exact h rfl | exact h (by decide))
      exact fin_id hE 0 rfl rfl rfl rfl ⟨rfl, rfl⟩
end Go.Proofs.Ytknpjbbkageiiaa.Cu

namespace Go.Proofs.Ytknpjbbkageiiaa.Cu
open Go Go.SX Go.Proofs.Ytknpjbbkageiiaa.VT
set_option maxRecDepth 100000
set_option linter.unusedVariables false
set_option linter.unusedSimpArgs false

theorem frzC {P : Program} {f : FuncId} {args : List SV} {G : Gh} {l : List Int} (h : Ct P f args [] G fun sv H' G' => sv = .s 0 ∧ H' = [rowB l] ∧ G' = G) :
    Ct P f args [] G fun sv H' G' => (∃ A c, sv = .v (.slice A l.length c) ∧ SlB G' A c l) ∧ H' = [] :=
  h.fin fun E sv H' G' hE hp => by
    obtain ⟨rfl, rfl, _⟩ := hp
    exact fin_done 0 rfl (byts_one _) fun A c G2 hg hs => fin_id hE 0 rfl rfl rfl rfl ⟨⟨A, c, rfl, hs⟩, rfl⟩
theorem isB_app2 {l m : List Int} (h : isB l) (h2 : isB m) : isB (l ++ m) := fun x hx => by
  rcases List.mem_append.1 hx with hx | hx
  · exact h x hx
  · exact h2 x hx
theorem isB_nil : isB [] := fun x hx => by simp at hx
theorem isB_if {p : Prop} [Decidable p] {l : List Int} (h : isB l) : isB (if p then l else []) := by
  split
  · exact h
  · exact isB_nil
theorem isB_cons {x : Int} {l : List Int} (hx : 0 ≤ x ∧ x ≤ 255) (h : isB l) : isB (x :: l) := fun y hy => by
  rcases List.mem_cons.1 hy with rfl | hy
  · exact hx
  · exact h y hy
theorem putB_isb (n : Nat) (h : n < 18446744073709551616) : isB (putB n) := vput_byte 9 n (by simpa using h)
theorem pU_isb (n : Int) : isB (pU n) := putB_isb _ (by have := pU_nat n; omega)
theorem u8_isb (n : Int) : 0 ≤ IntKind.u8.wrap n ∧ IntKind.u8.wrap n ≤ 255 := by rw [IntKind.wrap_u8]; omega
theorem fieldsB_isb (sD sA sB sI : Bool) (d a b imm : Int) (h : in64 imm) : isB (fieldsB sD sA sB sI d a b imm) := by
  have hz := zig_range imm h.1 h.2
  exact isB_app2 (isB_app2 (isB_app2 (isB_if (pU_isb _)) (isB_if (pU_isb _))) (isB_if (pU_isb _))) (isB_if (putB_isb _ (by omega)))
theorem putInsB_isb (i : Ins) (h : in64 i.imm) : isB (putInsB i) := isB_cons (u8_isb _) (fieldsB_isb _ _ _ _ _ _ _ _ h)
theorem putMacB_isb (i : Mac) (h : in64 i.imm) : isB (putMacB i) := isB_cons (u8_isb _) (isB_app2 (fieldsB_isb _ _ _ _ _ _ _ _ h) (isB_if (isB_app2 (pU_isb _) (pU_isb _))))
theorem putTrmB_isb (t : Trm) : isB (putTrmB t) := isB_cons (u8_isb _) (isB_app2 (isB_app2 (isB_if (pU_isb _)) (isB_if (pU_isb _))) (isB_if (pU_isb _)))
set_option maxHeartbeats 8000000 in
theorem itrunc_fn (G : Gh) (m : Mac) (regs slots cut : Int) (hm : m.ok) (h1 : 0 ≤ regs ∧ regs < 65536) (h2 : 0 ≤ slots ∧ slots < 65536) (h3 : 0 ≤ cut ∧ cut < 256) :
    Ct Try.prog 5 [m.sv, .v (.int .u16 regs), .v (.int .u16 slots), .v (.int .u8 cut)] [] G fun sv H' G' => sv = .v (.bool true) ∧ H' = [] := by
  have hw1 : IntKind.i64.wrap regs = regs := i64_in (by omega) (by omega)
  have hw2 : IntKind.i64.wrap slots = slots := i64_in (by omega) (by omega)
  have hpr := (Cod.mac (sh := fun e => e = 1) rfl sh1 regs slots (by omega)).pr m
  have hlen := putMacB_len m
  have hbm := putMacB_isb m hm.2.2.2.2.1
  refine fn_of follows [] Try.func5 rfl rfl fun E hE => ?_
  repeat' ((fail_if_success with_reducible refine Stop.mk ?_); (conv => whnf); with_reducible first | refine br_t ?_ | refine br_f ?_ | refine br_nn ?_ | refine br_ns ?_ | refine br_not ?_ | refine br_d (fun h => ?_) (fun h => ?_) | refine br_e (fun h => ?_) (fun h => ?_) | refine br_n (fun h => ?_) (fun h => ?_) | refine drw (by kernel_rfl) ?_ | refine chk (by kernel_rfl) ?_ | refine stop ?_)
  all_goals refine Stop.mk ?_
  refine call_fn [] (awake17_fn _) rfl trivial (by decide) ?_
  rintro sv H' G' ⟨rfl, rfl⟩ -
  refine ⟨Nat.le_of_ble_eq_true rfl, ?_⟩
  repeat' ((fail_if_success with_reducible refine Stop.mk ?_); (conv => whnf); with_reducible first | refine br_t ?_ | refine br_f ?_ | refine br_nn ?_ | refine br_ns ?_ | refine br_not ?_ | refine br_d (fun h => ?_) (fun h => ?_) | refine br_e (fun h => ?_) (fun h => ?_) | refine br_n (fun h => ?_) (fun h => ?_) | refine drw (by kernel_rfl) ?_ | refine chk (by kernel_rfl) ?_ | refine stop ?_)
  all_goals refine Stop.mk ?_
  rw [hw1, hw2]
  refine call_fn [] (r8Instr_fn _ m regs slots hm (by omega) (by omega)) rfl trivial (by decide) ?_
  rintro sv H' G' ⟨e, rfl, he, rfl, rfl⟩ -
  refine ⟨Nat.le_of_ble_eq_true rfl, ?_⟩
  repeat' ((fail_if_success with_reducible refine Stop.mk ?_); (conv => whnf); with_reducible first | refine br_t ?_ | refine br_f ?_ | refine br_nn ?_ | refine br_ns ?_ | refine br_not ?_ | refine br_d (fun h => ?_) (fun h => ?_) | refine br_e (fun h => ?_) (fun h => ?_) | refine br_n (fun h => ?_) (fun h => ?_) | refine drw (by kernel_rfl) ?_ | refine chk (by kernel_rfl) ?_ | refine stop ?_)
  all_goals refine Stop.mk ?_
  rotate_left
  ·
    refine call_fn [] (awake17_fn _) rfl trivial (by decide) ?_
    rintro sv H' G' ⟨rfl, rfl⟩ -
    refine ⟨Nat.le_of_ble_eq_true rfl, ?_⟩
    repeat' ((fail_if_success with_reducible refine Stop.mk ?_); (conv => whnf); with_reducible first | refine br_t ?_ | refine br_f ?_ | refine br_nn ?_ | refine br_ns ?_ | refine br_not ?_ | refine br_d (fun h => ?_) (fun h => ?_) | refine br_e (fun h => ?_) (fun h => ?_) | refine br_n (fun h => ?_) (fun h => ?_) | refine drw (by kernel_rfl) ?_ | refine chk (by kernel_rfl) ?_ | refine stop ?_)
    all_goals refine Stop.mk ?_
    exact fin_id hE 0 rfl rfl rfl rfl ⟨rfl, rfl⟩
  · have he0 : e = 0 := by omega
    have hok := he.1 he0
    clear he
    refine call_fn [] (frzC (r17Put_fn _ m hm)) rfl trivial (by decide) ?_
    rintro sv H' G' ⟨⟨Ap, cp, rfl, hp⟩, rfl⟩ -
    refine ⟨Nat.le_of_ble_eq_true rfl, ?_⟩
    have hcapp := hp.cap
    have htopp := hp.top
    generalize putMacB m = pk at *
    repeat' ((fail_if_success with_reducible refine Stop.mk ?_); (conv => whnf); with_reducible first | refine br_t ?_ | refine br_f ?_ | refine br_nn ?_ | refine br_ns ?_ | refine br_not ?_ | refine br_d (fun h => ?_) (fun h => ?_) | refine br_e (fun h => ?_) (fun h => ?_) | refine br_n (fun h => ?_) (fun h => ?_) | refine drw (by kernel_rfl) ?_ | refine chk (by kernel_rfl) ?_ | refine stop ?_)
    all_goals refine Stop.mk ?_
    refine ⟨by omega, ?_⟩
    have ek : (IntKind.i64.wrap cut).tmod (pk.length : Int) = ((cut.toNat % pk.length : Nat) : Int) := by
      rw [i64_in (by omega) (by omega), Int.tmod_eq_emod_of_nonneg (by omega)]; push_cast; rw [Int.toNat_of_nonneg (by omega)]
    rw [ek]
    have hk := Nat.mod_lt cut.toNat (show pk.length > 0 by omega)
    generalize cut.toNat % pk.length = k at *
    repeat' ((fail_if_success with_reducible refine Stop.mk ?_); (conv => whnf); with_reducible first | refine br_t ?_ | refine br_f ?_ | refine br_nn ?_ | refine br_ns ?_ | refine br_not ?_ | refine br_d (fun h => ?_) (fun h => ?_) | refine br_e (fun h => ?_) (fun h => ?_) | refine br_n (fun h => ?_) (fun h => ?_) | refine drw (by kernel_rfl) ?_ | refine chk (by kernel_rfl) ?_ | refine stop ?_)
    all_goals refine Stop.mk ?_
    refine ⟨⟨by omega, by omega⟩, fun A' hA' => ?_⟩
    obtain rfl : A' = Ap := by rw [hA']; split; · rfl
                               cases Ap <;> simp [Addr.add]
    simp only [Int.toNat_natCast, Nat.sub_zero]
    have htk : (pk.take k).length = k := by rw [List.length_take]; omega
    have hpk : ∀ G', SlB G' A' cp pk → SlB G' A' cp (pk.take k) := fun G' h => by unfold SlB; rw [htk]; exact slB_take h k (by omega)
    repeat' ((fail_if_success with_reducible refine Stop.mk ?_); (conv => whnf); with_reducible first | refine br_t ?_ | refine br_f ?_ | refine br_nn ?_ | refine br_ns ?_ | refine br_not ?_ | refine br_d (fun h => ?_) (fun h => ?_) | refine br_e (fun h => ?_) (fun h => ?_) | refine br_n (fun h => ?_) (fun h => ?_) | refine drw (by kernel_rfl) ?_ | refine chk (by kernel_rfl) ?_ | refine stop ?_)
    all_goals refine Stop.mk ?_
    have hnew := pnew_fn _ A' (pk.take k) cp (isB_take hbm k) (hpk _ hp) (by omega)
    rw [htk] at hnew
    refine call_fn [] (hnew) rfl trivial (by decide) ?_
    rintro sv H' G' ⟨A1, c1, rfl, rfl, hC⟩ -
    refine ⟨Nat.le_of_ble_eq_true rfl, ?_⟩
    repeat' ((fail_if_success with_reducible refine Stop.mk ?_); (conv => whnf); with_reducible first | refine br_t ?_ | refine br_f ?_ | refine br_nn ?_ | refine br_ns ?_ | refine br_not ?_ | refine br_d (fun h => ?_) (fun h => ?_) | refine br_e (fun h => ?_) (fun h => ?_) | refine br_n (fun h => ?_) (fun h => ?_) | refine drw (by kernel_rfl) ?_ | refine chk (by kernel_rfl) ?_ | refine stop ?_)
    all_goals refine Stop.mk ?_
    rw [hw1, hw2]
    refine call_fn [1] (mach_fn regs slots hC (by omega)) rfl ⟨rfl, trivial⟩ (by decide) ?_
    rintro sv H' G' ⟨rfl, rfl, rfl⟩ -
    refine ⟨Nat.le_of_ble_eq_true rfl, ?_⟩
    have hsh := hpr k hok hk
    rw [sMac_no (by rw [hsh]; decide)]
    repeat' ((fail_if_success with_reducible refine Stop.mk ?_); (conv => whnf); with_reducible first | refine br_t ?_ | refine br_f ?_ | refine br_nn ?_ | refine br_ns ?_ | refine br_not ?_ | refine br_d (fun h => ?_) (fun h => ?_) | refine br_e (fun h => ?_) (fun h => ?_) | refine br_n (fun h => ?_) (fun h => ?_) | refine drw (by kernel_rfl) ?_ | refine chk (by kernel_rfl) ?_ | refine stop ?_)
    all_goals refine Stop.mk ?_
    all_goals try (exfalso; rename_i h; first | exact h rfl | exact h (by decide))
    refine call_fn [1] (perr_fn) rfl ⟨rfl, trivial⟩ (by decide) ?_
    rintro sv H' G' ⟨rfl, rfl, rfl⟩ -
    refine ⟨Nat.le_of_ble_eq_true rfl, ?_⟩
    rw [hsh]
    repeat' ((fail_if_success with_reducible refine Stop.mk ?_); (conv => whnf); with_reducible first | refine br_t ?_ | refine br_f ?_ | refine br_nn ?_ | refine br_ns ?_ | refine br_not ?_ | refine br_d (fun h => ?_) (fun h => ?_) | refine br_e (fun h => ?_) (fun h => ?_) | refine br_n (fun h => ?_) (fun h => ?_) | refine drw (by kernel_rfl) ?_ | refine chk (by kernel_rfl) ?_ | refine stop ?_)
    all_goals refine Stop.mk ?_
    exact fin_id hE 0 rfl rfl rfl rfl ⟨rfl, rfl⟩
end Go.Proofs.Ytknpjbbkageiiaa.Cu
