/- The law: both are the reference's. -/
import Derived.Test.YtgdfhpknhcjipaaSe5
namespace Go.Proofs.Ytgdfhpknhcjipaa.Cu
open Go Go.SX Go.Proofs.Ytgdfhpknhcjipaa.VT
set_option maxRecDepth 100000
set_option linter.unusedVariables false
set_option linter.unusedSimpArgs false

set_option maxHeartbeats 8000000 in
theorem smatches_fn (G : Gh) (A B C : Option Addr) (c c2 c3 : Nat) (b ids : List Int) (cs : List (List Int)) (hb : kB.S G A c b) (hids : kB.S G B c2 ids) (hcs : kBs.S G C c3 cs) :
    Ct Try.prog 3 [.v (.slice A b.length c), .v (.slice B ids.length c2), .v (.slice C cs.length c3)] [] G fun sv H' G' => sv = .v (.bool true) ∧ H' = [] := by
  refine fn_of follows [] Try.func3 rfl rfl fun E hE => ?_
  have hcapb := hb.cap
  have hcapi := hids.cap
  have hcapc := hcs.cap
  repeat' ((fail_if_success with_reducible refine Stop.mk ?_); (conv => whnf); with_reducible first | refine br_t ?_ | refine br_f ?_ | refine br_nn ?_ | refine br_ns ?_ | refine br_not ?_ | refine br_d (fun h => ?_) (fun h => ?_) | refine br_e (fun h => ?_) (fun h => ?_) | refine br_n (fun h => ?_) (fun h => ?_) | refine drw (by kernel_rfl) ?_ | refine chk (by kernel_rfl) ?_ | refine stop ?_)
  all_goals refine Stop.mk ?_
  refine call_fn [] (awake3_fn _) rfl trivial (by decide) ?_
  rintro sv H' G' ⟨rfl, rfl⟩ hg
  refine ⟨Nat.le_of_ble_eq_true rfl, ?_⟩
  replace hb := hb.to hg
  replace hids := hids.to hg
  replace hcs := hcs.to hg
  clear hg
  repeat' ((fail_if_success with_reducible refine Stop.mk ?_); (conv => whnf); with_reducible first | refine br_t ?_ | refine br_f ?_ | refine br_nn ?_ | refine br_ns ?_ | refine br_not ?_ | refine br_d (fun h => ?_) (fun h => ?_) | refine br_e (fun h => ?_) (fun h => ?_) | refine br_n (fun h => ?_) (fun h => ?_) | refine drw (by kernel_rfl) ?_ | refine chk (by kernel_rfl) ?_ | refine stop ?_)
  all_goals refine Stop.mk ?_
  all_goals try
    refine call_fn [] (awake3_fn _) rfl trivial (by decide) ?_
    rintro sv H' G' ⟨rfl, rfl⟩ -
    refine ⟨Nat.le_of_ble_eq_true rfl, ?_⟩
    repeat' ((fail_if_success with_reducible refine Stop.mk ?_); (conv => whnf); with_reducible first | refine br_t ?_ | refine br_f ?_ | refine br_nn ?_ | refine br_ns ?_ | refine br_not ?_ | refine br_d (fun h => ?_) (fun h => ?_) | refine br_e (fun h => ?_) (fun h => ?_) | refine br_n (fun h => ?_) (fun h => ?_) | refine drw (by kernel_rfl) ?_ | refine chk (by kernel_rfl) ?_ | refine stop ?_)
    all_goals refine Stop.mk ?_
    exact fin_all ⟨rfl, rfl⟩
  refine call_fn [] (rfew_fn _ C c3 cs hcs) rfl trivial (by decide) ?_
  rintro sv H' G' ⟨⟨r, rfl, hr⟩, rfl, rfl⟩ -
  refine ⟨Nat.le_of_ble_eq_true rfl, ?_⟩
  cases r
  ·
    repeat' ((fail_if_success with_reducible refine Stop.mk ?_); (conv => whnf); with_reducible first | refine br_t ?_ | refine br_f ?_ | refine br_nn ?_ | refine br_ns ?_ | refine br_not ?_ | refine br_d (fun h => ?_) (fun h => ?_) | refine br_e (fun h => ?_) (fun h => ?_) | refine br_n (fun h => ?_) (fun h => ?_) | refine drw (by kernel_rfl) ?_ | refine chk (by kernel_rfl) ?_ | refine stop ?_)
    all_goals refine Stop.mk ?_
    refine call_fn [] (awake3_fn _) rfl trivial (by decide) ?_
    rintro sv H' G' ⟨rfl, rfl⟩ -
    refine ⟨Nat.le_of_ble_eq_true rfl, ?_⟩
    repeat' ((fail_if_success with_reducible refine Stop.mk ?_); (conv => whnf); with_reducible first | refine br_t ?_ | refine br_f ?_ | refine br_nn ?_ | refine br_ns ?_ | refine br_not ?_ | refine br_d (fun h => ?_) (fun h => ?_) | refine br_e (fun h => ?_) (fun h => ?_) | refine br_n (fun h => ?_) (fun h => ?_) | refine drw (by kernel_rfl) ?_ | refine chk (by kernel_rfl) ?_ | refine stop ?_)
    all_goals refine Stop.mk ?_
    exact fin_all ⟨rfl, rfl⟩
  obtain ⟨hc1, hc2⟩ := hr rfl
  clear hr
  repeat' ((fail_if_success with_reducible refine Stop.mk ?_); (conv => whnf); with_reducible first | refine br_t ?_ | refine br_f ?_ | refine br_nn ?_ | refine br_ns ?_ | refine br_not ?_ | refine br_d (fun h => ?_) (fun h => ?_) | refine br_e (fun h => ?_) (fun h => ?_) | refine br_n (fun h => ?_) (fun h => ?_) | refine drw (by kernel_rfl) ?_ | refine chk (by kernel_rfl) ?_ | refine stop ?_)
  all_goals refine Stop.mk ?_
  have hsb := (kB_S hb)
  by_cases hR : (splitR ids b).2 = 0
  · refine call_fn [] (split_fn _ A B c c2 b ids hsb.2 hsb.1 hids (by omega) (by omega)) rfl trivial (by decide) ?_
    intro sv H' G' hp hg
    rw [SplitPost, if_pos hR] at hp
    obtain ⟨vals, rfl, rfl, hv⟩ := hp
    replace hb := hb.to hg
    replace hids := hids.to hg
    replace hcs := hcs.to hg
    clear hg hsb
    have hsb := (kB_S hb)
    refine ⟨Nat.le_of_ble_eq_true rfl, ?_⟩
    repeat' ((fail_if_success with_reducible refine Stop.mk ?_); (conv => whnf); with_reducible first | refine br_t ?_ | refine br_f ?_ | refine br_nn ?_ | refine br_ns ?_ | refine br_not ?_ | refine br_d (fun h => ?_) (fun h => ?_) | refine br_e (fun h => ?_) (fun h => ?_) | refine br_n (fun h => ?_) (fun h => ?_) | refine drw (by kernel_rfl) ?_ | refine chk (by kernel_rfl) ?_ | refine stop ?_)
    all_goals refine Stop.mk ?_
    refine call_fn [] (rsplit_fn _ A B c c2 b ids hsb.2 hsb.1 hids (by omega) (by omega)) rfl trivial (by decide) ?_
    intro sv H' G' hp hg
    rw [SplitPost, if_pos hR] at hp
    obtain ⟨vals2, rfl, rfl, hv2⟩ := hp
    replace hb := hb.to hg
    replace hids := hids.to hg
    replace hcs := hcs.to hg
    replace hv := hv.to hg
    clear hg hsb
    refine ⟨Nat.le_of_ble_eq_true rfl, ?_⟩
    repeat' ((fail_if_success with_reducible refine Stop.mk ?_); (conv => whnf); with_reducible first | refine br_t ?_ | refine br_f ?_ | refine br_nn ?_ | refine br_ns ?_ | refine br_not ?_ | refine br_d (fun h => ?_) (fun h => ?_) | refine br_e (fun h => ?_) (fun h => ?_) | refine br_n (fun h => ?_) (fun h => ?_) | refine drw (by kernel_rfl) ?_ | refine chk (by kernel_rfl) ?_ | refine stop ?_)
    all_goals refine Stop.mk ?_
    refine call_fz 0 rfl (hv.ones) (enters_of Try.func15 rfl rfl) fun A0 c0 G0 hg0 hs0 => ?_
    (conv => whnf)
    refine call_fz 1 rfl (hv2.ones) (enters_of Try.func15 rfl rfl) fun A1 c1 G1 hg1 hs1 => ?_
    (conv => whnf)
    replace hids := (hids.to hg0).to hg1
    replace hcs := (hcs.to hg0).to hg1
    refine call_fn [] (rsame_fn _ A0 A1 c0 c1 (splitR ids b).1 (splitR ids b).1 ((Kd.S.of hs0 rfl rfl (hv.to hg0)).to hg1) (Kd.S.of hs1 rfl rfl ((hv2.to hg0).to hg1))) rfl trivial (by decide) ?_
    rintro sv H' G' ⟨rfl, rfl⟩ hg
    replace hids := hids.to hg
    replace hcs := hcs.to hg
    clear hg hg0 hg1
    rw [decide_eq_true rfl]
    refine ⟨Nat.le_of_ble_eq_true rfl, ?_⟩
    repeat' ((fail_if_success with_reducible refine Stop.mk ?_); (conv => whnf); with_reducible first | refine br_t ?_ | refine br_f ?_ | refine br_nn ?_ | refine br_ns ?_ | refine br_not ?_ | refine br_d (fun h => ?_) (fun h => ?_) | refine br_e (fun h => ?_) (fun h => ?_) | refine br_n (fun h => ?_) (fun h => ?_) | refine drw (by kernel_rfl) ?_ | refine chk (by kernel_rfl) ?_ | refine stop ?_)
    all_goals refine Stop.mk ?_
    all_goals try (rename_i h; exact absurd rfl h)
    by_cases hL : ids.length = cs.length
    · refine call_fn [] (pack_fn _ B C c2 c3 ids cs hids hcs (by omega) (by omega)) rfl trivial (by decide) ?_
      intro sv H' G' hp hg
      rw [PackPost, if_pos hL] at hp
      obtain ⟨rfl, rfl⟩ := hp
      replace hids := hids.to hg
      replace hcs := hcs.to hg
      clear hg
      refine ⟨Nat.le_of_ble_eq_true rfl, ?_⟩
      have hlen : (packB ids cs).length = sizeB cs := packB_len ids cs hL
      have hsz := sizeB_le cs
      repeat' ((fail_if_success with_reducible refine Stop.mk ?_); (conv => whnf); with_reducible first | refine br_t ?_ | refine br_f ?_ | refine br_nn ?_ | refine br_ns ?_ | refine br_not ?_ | refine br_d (fun h => ?_) (fun h => ?_) | refine br_e (fun h => ?_) (fun h => ?_) | refine br_n (fun h => ?_) (fun h => ?_) | refine drw (by kernel_rfl) ?_ | refine chk (by kernel_rfl) ?_ | refine stop ?_)
      all_goals refine Stop.mk ?_
      all_goals try (exfalso; omega)
      refine call_fn [] (rpack_fn _ B C c2 c3 ids cs hids hcs hL (by omega) (by omega)) rfl trivial (by decide) ?_
      rintro sv H' G' ⟨rfl, rfl⟩ hg
      refine ⟨Nat.le_of_ble_eq_true rfl, ?_⟩
      replace hcs := hcs.to hg
      clear hg
      repeat' ((fail_if_success with_reducible refine Stop.mk ?_); (conv => whnf); with_reducible first | refine br_t ?_ | refine br_f ?_ | refine br_nn ?_ | refine br_ns ?_ | refine br_not ?_ | refine br_d (fun h => ?_) (fun h => ?_) | refine br_e (fun h => ?_) (fun h => ?_) | refine br_n (fun h => ?_) (fun h => ?_) | refine drw (by kernel_rfl) ?_ | refine chk (by kernel_rfl) ?_ | refine stop ?_)
      all_goals refine Stop.mk ?_
      all_goals try (rename_i h; exact absurd rfl h)
      refine call_fz 2 rfl (byts_one _) (enters_of Try.func18 rfl rfl) fun Ax cx Gx hgx hsx => ?_
      (conv => whnf)
      refine call_fz 3 rfl (byts_one _) (enters_of Try.func18 rfl rfl) fun Ay cy Gy hgy hsy => ?_
      (conv => whnf)
      replace hcs := (hcs.to hgx).to hgy
      refine call_fn [] (same_fn _ Ax Ay cx cy (packB ids cs) (packB ids cs) (Sl.to hgy hsx) hsy) rfl trivial (by decide) ?_
      rintro sv H' G' ⟨rfl, rfl, rfl⟩ -
      rw [decide_eq_true rfl]
      refine ⟨Nat.le_of_ble_eq_true rfl, ?_⟩
      repeat' ((fail_if_success with_reducible refine Stop.mk ?_); (conv => whnf); with_reducible first | refine br_t ?_ | refine br_f ?_ | refine br_nn ?_ | refine br_ns ?_ | refine br_not ?_ | refine br_d (fun h => ?_) (fun h => ?_) | refine br_e (fun h => ?_) (fun h => ?_) | refine br_n (fun h => ?_) (fun h => ?_) | refine drw (by kernel_rfl) ?_ | refine chk (by kernel_rfl) ?_ | refine stop ?_)
      all_goals refine Stop.mk ?_
      refine call_fn [] (size_fn _ C c3 cs hcs (by omega) (by omega)) rfl trivial (by decide) ?_
      rintro sv H' G' ⟨rfl, rfl, rfl⟩ -
      refine ⟨Nat.le_of_ble_eq_true rfl, ?_⟩
      repeat' ((fail_if_success with_reducible refine Stop.mk ?_); (conv => whnf); with_reducible first | refine br_t ?_ | refine br_f ?_ | refine br_nn ?_ | refine br_ns ?_ | refine br_not ?_ | refine br_d (fun h => ?_) (fun h => ?_) | refine br_e (fun h => ?_) (fun h => ?_) | refine br_n (fun h => ?_) (fun h => ?_) | refine drw (by kernel_rfl) ?_ | refine chk (by kernel_rfl) ?_ | refine stop ?_)
      all_goals refine Stop.mk ?_
      refine fin_id hE 0 rfl rfl rfl rfl ⟨?_, rfl⟩
      rw [hlen]
      exact congrArg (fun b => SV.v (.bool b)) (by simp)
    · refine call_fn [] (pack_fn _ B C c2 c3 ids cs hids hcs (by omega) (by omega)) rfl trivial (by decide) ?_
      intro sv H' G' hp hg
      rw [PackPost, if_neg hL] at hp
      obtain ⟨rfl, rfl⟩ := hp
      refine ⟨Nat.le_of_ble_eq_true rfl, ?_⟩
      repeat' ((fail_if_success with_reducible refine Stop.mk ?_); (conv => whnf); with_reducible first | refine br_t ?_ | refine br_f ?_ | refine br_nn ?_ | refine br_ns ?_ | refine br_not ?_ | refine br_d (fun h => ?_) (fun h => ?_) | refine br_e (fun h => ?_) (fun h => ?_) | refine br_n (fun h => ?_) (fun h => ?_) | refine drw (by kernel_rfl) ?_ | refine chk (by kernel_rfl) ?_ | refine stop ?_)
      all_goals refine Stop.mk ?_
      all_goals try (exfalso; omega)
      exact fin_id hE 0 rfl rfl rfl rfl ⟨rfl, rfl⟩
  · refine call_fn [] (split_fn _ A B c c2 b ids hsb.2 hsb.1 hids (by omega) (by omega)) rfl trivial (by decide) ?_
    intro sv H' G' hp hg
    rw [SplitPost, if_neg hR] at hp
    obtain ⟨rfl, rfl⟩ := hp
    replace hb := hb.to hg
    replace hids := hids.to hg
    replace hcs := hcs.to hg
    clear hg hsb
    have hsb := (kB_S hb)
    refine ⟨Nat.le_of_ble_eq_true rfl, ?_⟩
    repeat' ((fail_if_success with_reducible refine Stop.mk ?_); (conv => whnf); with_reducible first | refine br_t ?_ | refine br_f ?_ | refine br_nn ?_ | refine br_ns ?_ | refine br_not ?_ | refine br_d (fun h => ?_) (fun h => ?_) | refine br_e (fun h => ?_) (fun h => ?_) | refine br_n (fun h => ?_) (fun h => ?_) | refine drw (by kernel_rfl) ?_ | refine chk (by kernel_rfl) ?_ | refine stop ?_)
    all_goals refine Stop.mk ?_
    refine call_fn [] (rsplit_fn _ A B c c2 b ids hsb.2 hsb.1 hids (by omega) (by omega)) rfl trivial (by decide) ?_
    intro sv H' G' hp hg
    rw [SplitPost, if_neg hR] at hp
    obtain ⟨rfl, rfl⟩ := hp
    replace hids := hids.to hg
    replace hcs := hcs.to hg
    clear hg hsb
    refine ⟨Nat.le_of_ble_eq_true rfl, ?_⟩
    repeat' ((fail_if_success with_reducible refine Stop.mk ?_); (conv => whnf); with_reducible first | refine br_t ?_ | refine br_f ?_ | refine br_nn ?_ | refine br_ns ?_ | refine br_not ?_ | refine br_d (fun h => ?_) (fun h => ?_) | refine br_e (fun h => ?_) (fun h => ?_) | refine br_n (fun h => ?_) (fun h => ?_) | refine drw (by kernel_rfl) ?_ | refine chk (by kernel_rfl) ?_ | refine stop ?_)
    all_goals refine Stop.mk ?_
    refine call_fn [] (rsame_fn _ none none 0 0 [] [] (Kd.S.none_ _ _) (Kd.S.none_ _ _)) rfl trivial (by decide) ?_
    rintro sv H' G' ⟨rfl, rfl⟩ hg
    replace hids := hids.to hg
    replace hcs := hcs.to hg
    clear hg
    rw [decide_eq_true rfl]
    refine ⟨Nat.le_of_ble_eq_true rfl, ?_⟩
    repeat' ((fail_if_success with_reducible refine Stop.mk ?_); (conv => whnf); with_reducible first | refine br_t ?_ | refine br_f ?_ | refine br_nn ?_ | refine br_ns ?_ | refine br_not ?_ | refine br_d (fun h => ?_) (fun h => ?_) | refine br_e (fun h => ?_) (fun h => ?_) | refine br_n (fun h => ?_) (fun h => ?_) | refine drw (by kernel_rfl) ?_ | refine chk (by kernel_rfl) ?_ | refine stop ?_)
    all_goals refine Stop.mk ?_
    all_goals try (rename_i h; exact absurd rfl h)
    by_cases hL : ids.length = cs.length
    · refine call_fn [] (pack_fn _ B C c2 c3 ids cs hids hcs (by omega) (by omega)) rfl trivial (by decide) ?_
      intro sv H' G' hp hg
      rw [PackPost, if_pos hL] at hp
      obtain ⟨rfl, rfl⟩ := hp
      replace hids := hids.to hg
      replace hcs := hcs.to hg
      clear hg
      refine ⟨Nat.le_of_ble_eq_true rfl, ?_⟩
      have hlen : (packB ids cs).length = sizeB cs := packB_len ids cs hL
      have hsz := sizeB_le cs
      repeat' ((fail_if_success with_reducible refine Stop.mk ?_); (conv => whnf); with_reducible first | refine br_t ?_ | refine br_f ?_ | refine br_nn ?_ | refine br_ns ?_ | refine br_not ?_ | refine br_d (fun h => ?_) (fun h => ?_) | refine br_e (fun h => ?_) (fun h => ?_) | refine br_n (fun h => ?_) (fun h => ?_) | refine drw (by kernel_rfl) ?_ | refine chk (by kernel_rfl) ?_ | refine stop ?_)
      all_goals refine Stop.mk ?_
      all_goals try (exfalso; omega)
      refine call_fn [] (rpack_fn _ B C c2 c3 ids cs hids hcs hL (by omega) (by omega)) rfl trivial (by decide) ?_
      rintro sv H' G' ⟨rfl, rfl⟩ hg
      refine ⟨Nat.le_of_ble_eq_true rfl, ?_⟩
      replace hcs := hcs.to hg
      clear hg
      repeat' ((fail_if_success with_reducible refine Stop.mk ?_); (conv => whnf); with_reducible first | refine br_t ?_ | refine br_f ?_ | refine br_nn ?_ | refine br_ns ?_ | refine br_not ?_ | refine br_d (fun h => ?_) (fun h => ?_) | refine br_e (fun h => ?_) (fun h => ?_) | refine br_n (fun h => ?_) (fun h => ?_) | refine drw (by kernel_rfl) ?_ | refine chk (by kernel_rfl) ?_ | refine stop ?_)
      all_goals refine Stop.mk ?_
      all_goals try (rename_i h; exact absurd rfl h)
      refine call_fz 0 rfl (byts_one _) (enters_of Try.func18 rfl rfl) fun Ax cx Gx hgx hsx => ?_
      (conv => whnf)
      refine call_fz 1 rfl (byts_one _) (enters_of Try.func18 rfl rfl) fun Ay cy Gy hgy hsy => ?_
      (conv => whnf)
      replace hcs := (hcs.to hgx).to hgy
      refine call_fn [] (same_fn _ Ax Ay cx cy (packB ids cs) (packB ids cs) (Sl.to hgy hsx) hsy) rfl trivial (by decide) ?_
      rintro sv H' G' ⟨rfl, rfl, rfl⟩ -
      rw [decide_eq_true rfl]
      refine ⟨Nat.le_of_ble_eq_true rfl, ?_⟩
      repeat' ((fail_if_success with_reducible refine Stop.mk ?_); (conv => whnf); with_reducible first | refine br_t ?_ | refine br_f ?_ | refine br_nn ?_ | refine br_ns ?_ | refine br_not ?_ | refine br_d (fun h => ?_) (fun h => ?_) | refine br_e (fun h => ?_) (fun h => ?_) | refine br_n (fun h => ?_) (fun h => ?_) | refine drw (by kernel_rfl) ?_ | refine chk (by kernel_rfl) ?_ | refine stop ?_)
      all_goals refine Stop.mk ?_
      refine call_fn [] (size_fn _ C c3 cs hcs (by omega) (by omega)) rfl trivial (by decide) ?_
      rintro sv H' G' ⟨rfl, rfl, rfl⟩ -
      refine ⟨Nat.le_of_ble_eq_true rfl, ?_⟩
      repeat' ((fail_if_success with_reducible refine Stop.mk ?_); (conv => whnf); with_reducible first | refine br_t ?_ | refine br_f ?_ | refine br_nn ?_ | refine br_ns ?_ | refine br_not ?_ | refine br_d (fun h => ?_) (fun h => ?_) | refine br_e (fun h => ?_) (fun h => ?_) | refine br_n (fun h => ?_) (fun h => ?_) | refine drw (by kernel_rfl) ?_ | refine chk (by kernel_rfl) ?_ | refine stop ?_)
      all_goals refine Stop.mk ?_
      refine fin_id hE 0 rfl rfl rfl rfl ⟨?_, rfl⟩
      rw [hlen]
      exact congrArg (fun b => SV.v (.bool b)) (by simp)
    · refine call_fn [] (pack_fn _ B C c2 c3 ids cs hids hcs (by omega) (by omega)) rfl trivial (by decide) ?_
      intro sv H' G' hp hg
      rw [PackPost, if_neg hL] at hp
      obtain ⟨rfl, rfl⟩ := hp
      refine ⟨Nat.le_of_ble_eq_true rfl, ?_⟩
      repeat' ((fail_if_success with_reducible refine Stop.mk ?_); (conv => whnf); with_reducible first | refine br_t ?_ | refine br_f ?_ | refine br_nn ?_ | refine br_ns ?_ | refine br_not ?_ | refine br_d (fun h => ?_) (fun h => ?_) | refine br_e (fun h => ?_) (fun h => ?_) | refine br_n (fun h => ?_) (fun h => ?_) | refine drw (by kernel_rfl) ?_ | refine chk (by kernel_rfl) ?_ | refine stop ?_)
      all_goals refine Stop.mk ?_
      all_goals try (exfalso; omega)
      exact fin_id hE 0 rfl rfl rfl rfl ⟨rfl, rfl⟩
end Go.Proofs.Ytgdfhpknhcjipaa.Cu
