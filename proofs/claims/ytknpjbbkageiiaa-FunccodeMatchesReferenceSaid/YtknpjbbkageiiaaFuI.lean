/- The law: what is cut off is too short. -/
import Derived.Test.YtknpjbbkageiiaaFu3
import Derived.Test.YtknpjbbkageiiaaFu7
import Derived.Test.YtknpjbbkageiiaaFuB
import Derived.Test.YtknpjbbkageiiaaFuF
import Derived.Test.YtknpjbbkageiiaaFuG
import Derived.Test.YtknpjbbkageiiaaFuH
namespace Go.Proofs.Ytknpjbbkageiiaa.Cu
open Go Go.SX Go.Proofs.Ytknpjbbkageiiaa.VT
set_option maxRecDepth 100000
set_option linter.unusedVariables false
set_option linter.unusedSimpArgs false
theorem okMFn_isb {f : MFn} (h : okMFn f) : isB (wMBs f.blocks) := by
  obtain ⟨_, ⟨h1, h2, _⟩, h3, h4, h5, h6⟩ := (okMFn_iff f).1 h
  unfold wMBs
  refine flat_isb _ _ fun b hb => encMB_isb (fun i hi => (okMac_ok (((okMCode_iff _ _ _).1 (h6 b hb).1).1 i hi) (by omega)).2.2.2.2.1) ?_
  obtain ⟨k, hk⟩ := List.getElem?_of_mem hb
  have h7 := totMB_take f.blocks k b hk
  have h8 := totMB_le f.blocks (k + 1)
  omega
theorem mfn_no {p : Ps} (h : (sMFnR p).2.2 ≠ 0) : (sMFnR p).1 = mfn0 := by
  unfold sMFnR at h ⊢
  dsimp only at h ⊢
  rw [if_neg h]
set_option maxHeartbeats 8000000 in
theorem ftrunc_fn (G : Gh) (A : Option Addr) (c : Nat) (f : MFn) (cut : Int) (hl : kMBlk.S G A c f.blocks) (h1 : 0 ≤ cut ∧ cut < 65536) :
    Ct Try.prog 9 [mfnS A c f, .v (.int .u16 cut)] [] G fun sv H' G' => sv = .v (.bool true) ∧ H' = [] := by
  have hcod := (Cod.mfn (sh := fun e => e = 1) rfl sh1).pr f
  refine fn_of follows [] Try.func9 rfl rfl fun E hE => ?_
  unfold mfnS
  repeat' ((fail_if_success with_reducible refine Stop.mk ?_); (conv => whnf); with_reducible first | refine br_t ?_ | refine br_f ?_ | refine br_nn ?_ | refine br_ns ?_ | refine br_not ?_ | refine br_d (fun h => ?_) (fun h => ?_) | refine br_e (fun h => ?_) (fun h => ?_) | refine br_n (fun h => ?_) (fun h => ?_) | refine drw (by kernel_rfl) ?_ | refine chk (by kernel_rfl) ?_ | refine stop ?_)
  all_goals refine Stop.mk ?_
  refine call_fn [] (awake18_fn _) rfl trivial (by decide) ?_
  rintro sv H' G' ⟨rfl, rfl⟩ hg
  refine ⟨Nat.le_of_ble_eq_true rfl, ?_⟩
  replace hl := hl.to hg
  clear hg
  repeat' ((fail_if_success with_reducible refine Stop.mk ?_); (conv => whnf); with_reducible first | refine br_t ?_ | refine br_f ?_ | refine br_nn ?_ | refine br_ns ?_ | refine br_not ?_ | refine br_d (fun h => ?_) (fun h => ?_) | refine br_e (fun h => ?_) (fun h => ?_) | refine br_n (fun h => ?_) (fun h => ?_) | refine drw (by kernel_rfl) ?_ | refine chk (by kernel_rfl) ?_ | refine stop ?_)
  all_goals refine Stop.mk ?_
  refine call_fn [] (few8_fn _ A c f hl) rfl trivial (by decide) ?_
  rintro sv H' G' ⟨⟨r, rfl, hfew⟩, rfl, rfl⟩ -
  refine ⟨Nat.le_of_ble_eq_true rfl, ?_⟩
  cases r
  ·
    repeat' ((fail_if_success with_reducible refine Stop.mk ?_); (conv => whnf); with_reducible first | refine br_t ?_ | refine br_f ?_ | refine br_nn ?_ | refine br_ns ?_ | refine br_not ?_ | refine br_d (fun h => ?_) (fun h => ?_) | refine br_e (fun h => ?_) (fun h => ?_) | refine br_n (fun h => ?_) (fun h => ?_) | refine drw (by kernel_rfl) ?_ | refine chk (by kernel_rfl) ?_ | refine stop ?_)
    all_goals refine Stop.mk ?_
    refine call_fn [] (awake18_fn _) rfl trivial (by decide) ?_
    rintro sv H' G' ⟨rfl, rfl⟩ -
    refine ⟨Nat.le_of_ble_eq_true rfl, ?_⟩
    repeat' ((fail_if_success with_reducible refine Stop.mk ?_); (conv => whnf); with_reducible first | refine br_t ?_ | refine br_f ?_ | refine br_nn ?_ | refine br_ns ?_ | refine br_not ?_ | refine br_d (fun h => ?_) (fun h => ?_) | refine br_e (fun h => ?_) (fun h => ?_) | refine br_n (fun h => ?_) (fun h => ?_) | refine drw (by kernel_rfl) ?_ | refine chk (by kernel_rfl) ?_ | refine stop ?_)
    all_goals refine Stop.mk ?_
    exact fin_id hE 0 rfl rfl rfl rfl ⟨rfl, rfl⟩
  obtain ⟨hf1, hf2, hf3, hf4⟩ := hfew rfl
  clear hfew
  repeat' ((fail_if_success with_reducible refine Stop.mk ?_); (conv => whnf); with_reducible first | refine br_t ?_ | refine br_f ?_ | refine br_nn ?_ | refine br_ns ?_ | refine br_not ?_ | refine br_d (fun h => ?_) (fun h => ?_) | refine br_e (fun h => ?_) (fun h => ?_) | refine br_n (fun h => ?_) (fun h => ?_) | refine drw (by kernel_rfl) ?_ | refine chk (by kernel_rfl) ?_ | refine stop ?_)
  all_goals refine Stop.mk ?_
  refine call_fn [] (check8_fn _ A c f hl (by omega) (by omega)) rfl trivial (by decide) ?_
  rintro sv H' G' ⟨e, rfl, he, rfl, rfl⟩ -
  refine ⟨Nat.le_of_ble_eq_true rfl, ?_⟩
  repeat' ((fail_if_success with_reducible refine Stop.mk ?_); (conv => whnf); with_reducible first | refine br_t ?_ | refine br_f ?_ | refine br_nn ?_ | refine br_ns ?_ | refine br_not ?_ | refine br_d (fun h => ?_) (fun h => ?_) | refine br_e (fun h => ?_) (fun h => ?_) | refine br_n (fun h => ?_) (fun h => ?_) | refine drw (by kernel_rfl) ?_ | refine chk (by kernel_rfl) ?_ | refine stop ?_)
  all_goals refine Stop.mk ?_
  all_goals try
    refine call_fn [] (awake18_fn _) rfl trivial (by decide) ?_
    rintro sv H' G' ⟨rfl, rfl⟩ -
    refine ⟨Nat.le_of_ble_eq_true rfl, ?_⟩
    repeat' ((fail_if_success with_reducible refine Stop.mk ?_); (conv => whnf); with_reducible first | refine br_t ?_ | refine br_f ?_ | refine br_nn ?_ | refine br_ns ?_ | refine br_not ?_ | refine br_d (fun h => ?_) (fun h => ?_) | refine br_e (fun h => ?_) (fun h => ?_) | refine br_n (fun h => ?_) (fun h => ?_) | refine drw (by kernel_rfl) ?_ | refine chk (by kernel_rfl) ?_ | refine stop ?_)
    all_goals refine Stop.mk ?_
    exact fin_id hE 0 rfl rfl rfl rfl ⟨rfl, rfl⟩
  have he0 : e = 0 := by omega
  have hok := he.1 he0
  clear he
  have hwl := wMBs_le f.blocks
  have heq := wMFn_eq hok
  have hisb : isB (wMFn f) := isB_app2 (isB_app2 (isB_app2 (isB_app2 (pU_isb _) (pU_isb _)) (pU_isb _)) (putB_isb _ (by omega))) (okMFn_isb hok)
  have hlw : 0 < (wMFn f).length ∧ (wMFn f).length ≤ 100000 := by
    have a1 := pU_len f.args
    have a2 := pU_len f.regs
    have a3 := pU_len f.slots
    have a4 := putB_len f.blocks.length
    have a5 : 0 < (putB f.blocks.length).length := vput_len_pos 9 _
    unfold wMFn
    simp only [List.length_append]
    omega
  rw [← heq] at hcod
  refine call_fn [] (rputMFunc_fn _ A c f hl (by omega) (by omega)) rfl trivial (by decide) ?_
  rintro sv H' G' ⟨⟨Ap, cp, rfl, hp⟩, rfl⟩ hg
  refine ⟨Nat.le_of_ble_eq_true rfl, ?_⟩
  clear hg hl
  have hcapp := hp.cap
  have htopp := hp.top
  generalize wMFn f = pk at *
  repeat' ((fail_if_success with_reducible refine Stop.mk ?_); (conv => whnf); with_reducible first | refine br_t ?_ | refine br_f ?_ | refine br_nn ?_ | refine br_ns ?_ | refine br_not ?_ | refine br_d (fun h => ?_) (fun h => ?_) | refine br_e (fun h => ?_) (fun h => ?_) | refine br_n (fun h => ?_) (fun h => ?_) | refine drw (by kernel_rfl) ?_ | refine chk (by kernel_rfl) ?_ | refine stop ?_)
  all_goals refine Stop.mk ?_
  refine ⟨by omega, ?_⟩
  have ek : (IntKind.i64.wrap cut).tmod (pk.length : Int) = ((cut.toNat % pk.length : Nat) : Int) := by
    rw [i64_in (by omega) (by omega), Int.tmod_eq_emod_of_nonneg (by omega)]; push_cast; rw [Int.toNat_of_nonneg (by omega)]
  rw [ek]
  have hk := Nat.mod_lt cut.toNat (show pk.length > 0 by omega)
  generalize cut.toNat % pk.length = k at *
  repeat' ((fail_if_success with_reducible refine Stop.mk ?_); (conv => whnf); with_reducible first | refine br_t ?_ | refine br_f ?_ | refine br_nn ?_ | refine br_ns ?_ | refine br_not ?_ | refine br_d (fun h => ?_) (fun h => ?_) | refine br_e (fun h => ?_) (fun h => ?_) | refine br_n (fun h => ?_) (fun h => ?_) | refine drw (by kernel_rfl) ?_ | refine chk (by kernel_rfl) ?_ | refine stop ?_)
  all_goals refine Stop.mk ?_
  refine ⟨⟨by omega, by omega⟩, fun A' hA' => ?_⟩
  obtain rfl : A' = Ap := by rw [hA']; split; · rfl
                             cases Ap <;> simp [Addr.add]
  simp only [Int.toNat_natCast, Nat.sub_zero]
  have htk : (pk.take k).length = k := by rw [List.length_take]; omega
  have hpk : ∀ G', SlB G' A' cp pk → SlB G' A' cp (pk.take k) := fun G' h => by unfold SlB; rw [htk]; exact slB_take h k (by omega)
  repeat' ((fail_if_success with_reducible refine Stop.mk ?_); (conv => whnf); with_reducible first | refine br_t ?_ | refine br_f ?_ | refine br_nn ?_ | refine br_ns ?_ | refine br_not ?_ | refine br_d (fun h => ?_) (fun h => ?_) | refine br_e (fun h => ?_) (fun h => ?_) | refine br_n (fun h => ?_) (fun h => ?_) | refine drw (by kernel_rfl) ?_ | refine chk (by kernel_rfl) ?_ | refine stop ?_)
  all_goals refine Stop.mk ?_
  have hnew := pnew_fn _ A' (pk.take k) cp (isB_take hisb k) (hpk _ hp) (by omega)
  rw [htk] at hnew
  refine call_fn [] (hnew) rfl trivial (by decide) ?_
  rintro sv H' G' ⟨A1, c1, rfl, rfl, hC⟩ -
  refine ⟨Nat.le_of_ble_eq_true rfl, ?_⟩
  repeat' ((fail_if_success with_reducible refine Stop.mk ?_); (conv => whnf); with_reducible first | refine br_t ?_ | refine br_f ?_ | refine br_nn ?_ | refine br_ns ?_ | refine br_not ?_ | refine br_d (fun h => ?_) (fun h => ?_) | refine br_e (fun h => ?_) (fun h => ?_) | refine br_n (fun h => ?_) (fun h => ?_) | refine drw (by kernel_rfl) ?_ | refine chk (by kernel_rfl) ?_ | refine stop ?_)
  all_goals refine Stop.mk ?_
  have hsh := hcod k hok hk
  refine call_fn [1] (mfunc_fn hC) rfl ⟨rfl, trivial⟩ (by decide) ?_
  rintro sv H' G' ⟨A4, c4, rfl, hn, rfl⟩ -
  rw [mfn_no (by rw [hsh]; decide)] at hn ⊢
  refine ⟨Nat.le_of_ble_eq_true rfl, ?_⟩
  repeat' ((fail_if_success with_reducible refine Stop.mk ?_); (conv => whnf); with_reducible first | refine br_t ?_ | refine br_f ?_ | refine br_nn ?_ | refine br_ns ?_ | refine br_not ?_ | refine br_d (fun h => ?_) (fun h => ?_) | refine br_e (fun h => ?_) (fun h => ?_) | refine br_n (fun h => ?_) (fun h => ?_) | refine drw (by kernel_rfl) ?_ | refine chk (by kernel_rfl) ?_ | refine stop ?_)
  all_goals refine Stop.mk ?_
  refine call_fn [1] (perr_fn) rfl ⟨rfl, trivial⟩ (by decide) ?_
  rintro sv H' G' ⟨rfl, rfl, rfl⟩ -
  refine ⟨Nat.le_of_ble_eq_true rfl, ?_⟩
  rw [hsh]
  repeat' ((fail_if_success with_reducible refine Stop.mk ?_); (conv => whnf); first | with_reducible refine br_t ?_ | with_reducible refine br_f ?_ | with_reducible refine br_nn ?_ | with_reducible refine br_ns ?_ | with_reducible refine br_not ?_ | ((with_reducible refine br_d (fun h => ?_) (fun h => ?_)) <;> try (exfalso; omega)) | ((with_reducible refine br_e (fun h => ?_) (fun h => ?_)) <;> try (exfalso; omega)) | ((with_reducible refine br_n (fun h => ?_) (fun h => ?_)) <;> try (exfalso; omega)) | with_reducible refine drw (by kernel_rfl) ?_ | with_reducible refine chk (by kernel_rfl) ?_ | with_reducible refine stop ?_)
  all_goals refine Stop.mk ?_
  refine call_fn [] (same8_fn _ A4 none c4 0 mfn0 mfn0 hn (Kd.S.none_ _ _)) rfl trivial (by decide) ?_
  rintro sv H' G' ⟨rfl, rfl, rfl⟩ -
  rw [decide_eq_true rfl]
  refine ⟨Nat.le_of_ble_eq_true rfl, ?_⟩
  repeat' ((fail_if_success with_reducible refine Stop.mk ?_); (conv => whnf); with_reducible first | refine br_t ?_ | refine br_f ?_ | refine br_nn ?_ | refine br_ns ?_ | refine br_not ?_ | refine br_d (fun h => ?_) (fun h => ?_) | refine br_e (fun h => ?_) (fun h => ?_) | refine br_n (fun h => ?_) (fun h => ?_) | refine drw (by kernel_rfl) ?_ | refine chk (by kernel_rfl) ?_ | refine stop ?_)
  all_goals refine Stop.mk ?_
  exact fin_id hE 0 rfl rfl rfl rfl ⟨rfl, rfl⟩
end Go.Proofs.Ytknpjbbkageiiaa.Cu
