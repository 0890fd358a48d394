/- The law: what is read is what the reference reads. -/
import Derived.Test.YtgdfhpknhcjipaaWiC
namespace Go.Proofs.Ytgdfhpknhcjipaa.Cu
open Go Go.SX Go.Proofs.Ytgdfhpknhcjipaa.VT
set_option maxRecDepth 100000
set_option linter.unusedVariables false
set_option linter.unusedSimpArgs false
set_option maxHeartbeats 8000000 in
theorem wmatch_fn (G : Gh) (A : Option Addr) (c : Nat) (b : List Int) (blocks vregs regs slots : Int) (hbb : isB b) (hsb : SlB G A c b) (h0 : 0 ≤ blocks ∧ blocks < 256) (h1 : 0 ≤ vregs ∧ vregs < 65536) (h2 : 0 ≤ regs ∧ regs < 65536) (h3 : 0 ≤ slots ∧ slots < 65536) :
    Ct Try.prog 8 [.v (.slice A b.length c), .v (.int .u8 blocks), .v (.int .u16 vregs), .v (.int .u16 regs), .v (.int .u16 slots)] [] G fun sv H' G' => sv = .v (.bool true) ∧ H' = [] := by
  have hw0 : IntKind.i64.wrap blocks = blocks := i64_in (by omega) (by omega)
  have hw1 : IntKind.i64.wrap vregs = vregs := i64_in (by omega) (by omega)
  have hw2 : IntKind.i64.wrap regs = regs := i64_in (by omega) (by omega)
  have hw3 : IntKind.i64.wrap slots = slots := i64_in (by omega) (by omega)
  have hcapb := hsb.cap
  have htopb := hsb.top
  refine fn_of follows [(8, (.cons 0 [] (.cons 1 [] (.cons 2 [] (.cons 3 [] (.cons 4 [] (.cons 6 [] (.cons 7 [] (.cons 5 [] (.cons 8 [] (.cons 9 [] (.cons 10 [] (.cons 11 [] (.cons 12 [] (.cons 13 [] (.cons 14 [] (.cons 15 [] (.cons 17 [] (.cons 18 [] (.cons 19 [] (.cons 16 [7, 12] (.cons 20 [] (.cons 21 [] (.cons 22 [] (.cons 23 [] .nil)))))))))))))))))))))))))] Try.func8 rfl rfl fun E hE => ?_
  repeat' ((fail_if_success with_reducible refine Stop.mk ?_); (conv => whnf); with_reducible first | refine br_t ?_ | refine br_f ?_ | refine br_nn ?_ | refine br_ns ?_ | refine br_not ?_ | refine br_d (fun h => ?_) (fun h => ?_) | refine br_e (fun h => ?_) (fun h => ?_) | refine br_n (fun h => ?_) (fun h => ?_) | refine drw (by kernel_rfl) ?_ | refine chk (by kernel_rfl) ?_ | refine stop ?_)
  all_goals refine Stop.mk ?_
  refine call_fn [] (awake19_fn _) rfl trivial (by decide) ?_
  rintro sv H' G' ⟨rfl, rfl⟩ hg
  refine ⟨Nat.le_of_ble_eq_true rfl, ?_⟩
  replace hsb := hsb.to hg
  clear hg
  repeat' ((fail_if_success with_reducible refine Stop.mk ?_); (conv => whnf); with_reducible first | refine br_t ?_ | refine br_f ?_ | refine br_nn ?_ | refine br_ns ?_ | refine br_not ?_ | refine br_d (fun h => ?_) (fun h => ?_) | refine br_e (fun h => ?_) (fun h => ?_) | refine br_n (fun h => ?_) (fun h => ?_) | refine drw (by kernel_rfl) ?_ | refine chk (by kernel_rfl) ?_ | refine stop ?_)
  all_goals refine Stop.mk ?_
  all_goals try
    refine call_fn [] (awake19_fn _) rfl trivial (by decide) ?_
    rintro sv H' G' ⟨rfl, rfl⟩ -
    refine ⟨Nat.le_of_ble_eq_true rfl, ?_⟩
    repeat' ((fail_if_success with_reducible refine Stop.mk ?_); (conv => whnf); with_reducible first | refine br_t ?_ | refine br_f ?_ | refine br_nn ?_ | refine br_ns ?_ | refine br_not ?_ | refine br_d (fun h => ?_) (fun h => ?_) | refine br_e (fun h => ?_) (fun h => ?_) | refine br_n (fun h => ?_) (fun h => ?_) | refine drw (by kernel_rfl) ?_ | refine chk (by kernel_rfl) ?_ | refine stop ?_)
    all_goals refine Stop.mk ?_
    exact fin_all ⟨rfl, rfl⟩
  refine call_fn [] (pnew_fn _ A b c hbb hsb (by omega)) rfl trivial (by decide) ?_
  rintro sv H' G' ⟨A1, c1, rfl, rfl, hC⟩ hg
  refine ⟨Nat.le_of_ble_eq_true rfl, ?_⟩
  replace hsb := hsb.to hg
  clear hg
  repeat' ((fail_if_success with_reducible refine Stop.mk ?_); (conv => whnf); with_reducible first | refine br_t ?_ | refine br_f ?_ | refine br_nn ?_ | refine br_ns ?_ | refine br_not ?_ | refine br_d (fun h => ?_) (fun h => ?_) | refine br_e (fun h => ?_) (fun h => ?_) | refine br_n (fun h => ?_) (fun h => ?_) | refine drw (by kernel_rfl) ?_ | refine chk (by kernel_rfl) ?_ | refine stop ?_)
  all_goals refine Stop.mk ?_
  rw [hw0, hw1, hw2, hw3]
  refine call_fn [0] (get_inv_fn blocks vregs regs slots hC (by omega) (by omega) (by omega) (by omega)) rfl ⟨rfl, trivial⟩ (by decide) ?_
  rintro sv H' G' ⟨⟨A4, c4, rfl, hn⟩, rfl⟩ hg
  replace hsb := hsb.to hg
  replace hC := (hC.to hg).next (q := (sInv vregs regs slots blocks (b, 0)).2) (rep_suf (fun t p => sBlk_suf vregs regs slots t p) (nx := nxT) blocks.toNat 0 (b, 0))
  clear hg
  refine ⟨Nat.le_of_ble_eq_true rfl, ?_⟩
  repeat' ((fail_if_success with_reducible refine Stop.mk ?_); (conv => whnf); with_reducible first | refine br_t ?_ | refine br_f ?_ | refine br_nn ?_ | refine br_ns ?_ | refine br_not ?_ | refine br_d (fun h => ?_) (fun h => ?_) | refine br_e (fun h => ?_) (fun h => ?_) | refine br_n (fun h => ?_) (fun h => ?_) | refine drw (by kernel_rfl) ?_ | refine chk (by kernel_rfl) ?_ | refine stop ?_)
  all_goals refine Stop.mk ?_
  refine ⟨_, hsb, ⟨by show (0 + b.length) * 1 ≤ _; omega, ?_⟩⟩
  repeat' ((fail_if_success with_reducible refine Stop.mk ?_); (conv => whnf); with_reducible first | refine br_t ?_ | refine br_f ?_ | refine br_nn ?_ | refine br_ns ?_ | refine br_not ?_ | refine br_d (fun h => ?_) (fun h => ?_) | refine br_e (fun h => ?_) (fun h => ?_) | refine br_n (fun h => ?_) (fun h => ?_) | refine drw (by kernel_rfl) ?_ | refine chk (by kernel_rfl) ?_ | refine stop ?_)
  all_goals refine Stop.mk ?_
  rw [hw0, hw1, hw2, hw3, Nat.zero_add b.length, List.nil_append]
  refine call_fz 1 rfl (byts_one _) (enters_of Try.func28 rfl rfl) fun Ax cx Gx hgx hsx => ?_
  (conv => whnf)
  have hI : RIn Gx Ax cx (b, 0) (b, 0) := ⟨SlB.of b hsx rfl rfl rfl, hbb, by dsimp only; omega, rfl, fun _ => rfl⟩
  replace hC := hC.to hgx
  replace hn := hn.to hgx
  clear hgx hsx
  refine call_fn [] (rget_inv_fn blocks vregs regs slots hI hbb (by omega) (by omega) (by omega) (by omega)) rfl trivial (by decide) ?_
  generalize hl : (if (sInv vregs regs slots blocks (b, 0)).2.2 = 0 then (sInv vregs regs slots blocks (b, 0)).1 else []) = l at *
  generalize (sInv vregs regs slots blocks (b, 0)).2 = p at *
  rintro sv H' G' ⟨v, A5, c5, r5, rfl, ⟨A6, c6, rfl, hm⟩, hR, rfl⟩ hg
  replace hC := hC.to hg
  replace hn := hn.to hg
  clear hg
  refine ⟨Nat.le_of_ble_eq_true rfl, ?_⟩
  repeat' ((fail_if_success with_reducible refine Stop.mk ?_); (conv => whnf); with_reducible first | refine br_t ?_ | refine br_f ?_ | refine br_nn ?_ | refine br_ns ?_ | refine br_not ?_ | refine br_d (fun h => ?_) (fun h => ?_) | refine br_e (fun h => ?_) (fun h => ?_) | refine br_n (fun h => ?_) (fun h => ?_) | refine drw (by kernel_rfl) ?_ | refine chk (by kernel_rfl) ?_ | refine stop ?_)
  all_goals refine Stop.mk ?_
  refine call_fn [] (same15_fn _ A4 A6 c4 c6 l l hn hm) rfl trivial (by decide) ?_
  rintro sv H' G' ⟨rfl, rfl, rfl⟩ -
  refine ⟨Nat.le_of_ble_eq_true rfl, ?_⟩
  rw [decide_eq_true rfl]
  obtain ⟨hs5, hb5, hl5, he5, hr5⟩ := hR
  repeat' ((fail_if_success with_reducible refine Stop.mk ?_); (conv => whnf); with_reducible first | refine br_t ?_ | refine br_f ?_ | refine br_nn ?_ | refine br_ns ?_ | refine br_not ?_ | refine br_d (fun h => ?_) (fun h => ?_) | refine br_e (fun h => ?_) (fun h => ?_) | refine br_n (fun h => ?_) (fun h => ?_) | refine drw (by kernel_rfl) ?_ | refine chk (by kernel_rfl) ?_ | refine stop ?_)
  all_goals refine Stop.mk ?_
  all_goals try (exfalso; rename_i h; first | exact h rfl | exact h (by decide))
  refine call_fn [0] (perr_fn (p := p)) rfl ⟨rfl, trivial⟩ (by decide) ?_
  rintro sv H' G' ⟨rfl, rfl, rfl⟩ -
  refine ⟨Nat.le_of_ble_eq_true rfl, ?_⟩
  repeat' ((fail_if_success with_reducible refine Stop.mk ?_); (conv => whnf); with_reducible first | refine br_t ?_ | refine br_f ?_ | refine br_nn ?_ | refine br_ns ?_ | refine br_not ?_ | refine br_d (fun h => ?_) (fun h => ?_) | refine br_e (fun h => ?_) (fun h => ?_) | refine br_n (fun h => ?_) (fun h => ?_) | refine drw (by kernel_rfl) ?_ | refine chk (by kernel_rfl) ?_ | refine stop ?_)
  all_goals refine Stop.mk ?_
  ·
    refine call_fn [0] (pleft_fn hC) rfl ⟨rfl, trivial⟩ (by decide) ?_
    rintro sv H' G' ⟨rfl, rfl, rfl⟩ -
    refine ⟨Nat.le_of_ble_eq_true rfl, ?_⟩
    have h50 : r5.2 = 0 := by assumption
    have hp0 : p.2 = 0 := by omega
    have hlen : sLeft p = (r5.1.length : Int) := by unfold sLeft; rw [if_pos hp0, hr5 hp0]
    rw [hlen]
    repeat' ((fail_if_success with_reducible refine Stop.mk ?_); (conv => whnf); with_reducible first | refine br_t ?_ | refine br_f ?_ | refine br_nn ?_ | refine br_ns ?_ | refine br_not ?_ | refine br_d (fun h => ?_) (fun h => ?_) | refine br_e (fun h => ?_) (fun h => ?_) | refine br_n (fun h => ?_) (fun h => ?_) | refine drw (by kernel_rfl) ?_ | refine chk (by kernel_rfl) ?_ | refine stop ?_)
    all_goals refine Stop.mk ?_
    refine fin_id hE 0 rfl rfl rfl rfl ⟨?_, rfl⟩
    simp
  · exact fin_id hE 0 rfl rfl rfl rfl ⟨rfl, rfl⟩
  · exfalso
    have h51 : p.2 ≠ r5.2 := by assumption
    exact h51 he5.symm
end Go.Proofs.Ytgdfhpknhcjipaa.Cu
