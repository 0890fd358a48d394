/- The law: a bijection. -/
import Derived.Test.YtgdfhpknhcjipaaSe5
import Derived.Test.YtgdfhpknhcjipaaSe7
namespace Go.Proofs.Ytgdfhpknhcjipaa.Cu
open Go Go.SX Go.Proofs.Ytgdfhpknhcjipaa.VT
set_option maxRecDepth 100000
set_option linter.unusedVariables false
set_option linter.unusedSimpArgs false

set_option maxHeartbeats 8000000 in
theorem sbij_fn (G : Gh) (A B C : Option Addr) (c c2 c3 : Nat) (b ids : List Int) (cs : List (List Int)) (hb : kB.S G A c b) (hids : kB.S G B c2 ids) (hcs : kBs.S G C c3 cs) :
    Ct Try.prog 4 [.v (.slice B ids.length c2), .v (.slice C cs.length c3), .v (.slice A b.length c)] [] G fun sv H' G' => sv = .v (.bool true) ∧ H' = [] := by
  refine fn_of follows [] Try.func4 rfl rfl fun E hE => ?_
  have hcapb := hb.cap
  have hcapi := hids.cap
  have hcapc := hcs.cap
  repeat' ((fail_if_success with_reducible refine Stop.mk ?_); (conv => whnf); with_reducible first | refine br_t ?_ | refine br_f ?_ | refine br_nn ?_ | refine br_ns ?_ | refine br_not ?_ | refine br_d (fun h => ?_) (fun h => ?_) | refine br_e (fun h => ?_) (fun h => ?_) | refine br_n (fun h => ?_) (fun h => ?_) | refine drw (by kernel_rfl) ?_ | refine chk (by kernel_rfl) ?_ | refine stop ?_)
  all_goals refine Stop.mk ?_
  refine call_fn [] (awake3_fn _) rfl trivial (by decide) ?_
  rintro sv H' G' ⟨rfl, rfl⟩ hg
  refine ⟨Nat.le_of_ble_eq_true rfl, ?_⟩
  replace hb := hb.to hg
  replace hids := hids.to hg
  replace hcs := hcs.to hg
  clear hg
  repeat' ((fail_if_success with_reducible refine Stop.mk ?_); (conv => whnf); with_reducible first | refine br_t ?_ | refine br_f ?_ | refine br_nn ?_ | refine br_ns ?_ | refine br_not ?_ | refine br_d (fun h => ?_) (fun h => ?_) | refine br_e (fun h => ?_) (fun h => ?_) | refine br_n (fun h => ?_) (fun h => ?_) | refine drw (by kernel_rfl) ?_ | refine chk (by kernel_rfl) ?_ | refine stop ?_)
  all_goals refine Stop.mk ?_
  all_goals try
    refine call_fn [] (awake3_fn _) rfl trivial (by decide) ?_
    rintro sv H' G' ⟨rfl, rfl⟩ -
    refine ⟨Nat.le_of_ble_eq_true rfl, ?_⟩
    repeat' ((fail_if_success with_reducible refine Stop.mk ?_); (conv => whnf); with_reducible first | refine br_t ?_ | refine br_f ?_ | refine br_nn ?_ | refine br_ns ?_ | refine br_not ?_ | refine br_d (fun h => ?_) (fun h => ?_) | refine br_e (fun h => ?_) (fun h => ?_) | refine br_n (fun h => ?_) (fun h => ?_) | refine drw (by kernel_rfl) ?_ | refine chk (by kernel_rfl) ?_ | refine stop ?_)
    all_goals refine Stop.mk ?_
    exact fin_all ⟨rfl, rfl⟩
  refine call_fn [] (rfew_fn _ C c3 cs hcs) rfl trivial (by decide) ?_
  rintro sv H' G' ⟨⟨r, rfl, hr⟩, rfl, rfl⟩ -
  refine ⟨Nat.le_of_ble_eq_true rfl, ?_⟩
  cases r
  ·
    repeat' ((fail_if_success with_reducible refine Stop.mk ?_); (conv => whnf); with_reducible first | refine br_t ?_ | refine br_f ?_ | refine br_nn ?_ | refine br_ns ?_ | refine br_not ?_ | refine br_d (fun h => ?_) (fun h => ?_) | refine br_e (fun h => ?_) (fun h => ?_) | refine br_n (fun h => ?_) (fun h => ?_) | refine drw (by kernel_rfl) ?_ | refine chk (by kernel_rfl) ?_ | refine stop ?_)
    all_goals refine Stop.mk ?_
    refine call_fn [] (awake3_fn _) rfl trivial (by decide) ?_
    rintro sv H' G' ⟨rfl, rfl⟩ -
    refine ⟨Nat.le_of_ble_eq_true rfl, ?_⟩
    repeat' ((fail_if_success with_reducible refine Stop.mk ?_); (conv => whnf); with_reducible first | refine br_t ?_ | refine br_f ?_ | refine br_nn ?_ | refine br_ns ?_ | refine br_not ?_ | refine br_d (fun h => ?_) (fun h => ?_) | refine br_e (fun h => ?_) (fun h => ?_) | refine br_n (fun h => ?_) (fun h => ?_) | refine drw (by kernel_rfl) ?_ | refine chk (by kernel_rfl) ?_ | refine stop ?_)
    all_goals refine Stop.mk ?_
    exact fin_all ⟨rfl, rfl⟩
  obtain ⟨hc1, hc2⟩ := hr rfl
  clear hr
  repeat' ((fail_if_success with_reducible refine Stop.mk ?_); (conv => whnf); with_reducible first | refine br_t ?_ | refine br_f ?_ | refine br_nn ?_ | refine br_ns ?_ | refine br_not ?_ | refine br_d (fun h => ?_) (fun h => ?_) | refine br_e (fun h => ?_) (fun h => ?_) | refine br_n (fun h => ?_) (fun h => ?_) | refine drw (by kernel_rfl) ?_ | refine chk (by kernel_rfl) ?_ | refine stop ?_)
  all_goals refine Stop.mk ?_
  have hsb := (kB_S hb)
  have hsi := (kB_S hids)
  have hok := kBs_ok hcs (by omega)
  by_cases hR : (splitR ids b).2 = 0
  · refine call_fn [] (split_fn _ A B c c2 b ids hsb.2 hsb.1 hids (by omega) (by omega)) rfl trivial (by decide) ?_
    intro sv H' G' hp hg
    rw [SplitPost, if_pos hR] at hp
    obtain ⟨vals, rfl, rfl, hv⟩ := hp
    replace hb := hb.to hg
    replace hids := hids.to hg
    replace hcs := hcs.to hg
    clear hg
    obtain ⟨hq1, hq2, hq3, hq4⟩ := splitR_inv hsb.2 (by omega) hR
    generalize (splitR ids b).1 = s at *
    refine ⟨Nat.le_of_ble_eq_true rfl, ?_⟩
    repeat' ((fail_if_success with_reducible refine Stop.mk ?_); (conv => whnf); with_reducible first | refine br_t ?_ | refine br_f ?_ | refine br_nn ?_ | refine br_ns ?_ | refine br_not ?_ | refine br_d (fun h => ?_) (fun h => ?_) | refine br_e (fun h => ?_) (fun h => ?_) | refine br_n (fun h => ?_) (fun h => ?_) | refine drw (by kernel_rfl) ?_ | refine chk (by kernel_rfl) ?_ | refine stop ?_)
    all_goals refine Stop.mk ?_
    all_goals try (exfalso; omega)
    refine call_fz 0 rfl (hv.ones) (enters_of Try.func16 rfl rfl) fun Ax cx Gx hgx hsx => ?_
    (conv => whnf)
    replace hb := hb.to hgx
    replace hids := hids.to hgx
    replace hcs := hcs.to hgx
    refine call_fn [] (pack_fn _ B Ax c2 cx ids s hids (Kd.S.of hsx rfl rfl (hv.to hgx)) (by omega) (by omega)) rfl trivial (by decide) ?_
    intro sv H' G' hp hg
    rw [PackPost, if_pos hq4.symm] at hp
    obtain ⟨rfl, rfl⟩ := hp
    replace hb := hb.to hg
    replace hids := hids.to hg
    replace hcs := hcs.to hg
    clear hg
    refine ⟨Nat.le_of_ble_eq_true rfl, ?_⟩
    rw [← hq1]
    repeat' ((fail_if_success with_reducible refine Stop.mk ?_); (conv => whnf); with_reducible first | refine br_t ?_ | refine br_f ?_ | refine br_nn ?_ | refine br_ns ?_ | refine br_not ?_ | refine br_d (fun h => ?_) (fun h => ?_) | refine br_e (fun h => ?_) (fun h => ?_) | refine br_n (fun h => ?_) (fun h => ?_) | refine drw (by kernel_rfl) ?_ | refine chk (by kernel_rfl) ?_ | refine stop ?_)
    all_goals refine Stop.mk ?_
    refine call_fz 1 rfl (byts_one _) (enters_of Try.func18 rfl rfl) fun Ay cy Gy hgy hsy => ?_
    (conv => whnf)
    replace hb := hb.to hgy
    replace hids := hids.to hgy
    replace hcs := hcs.to hgy
    refine call_fn [] (same_fn _ Ay A cy c b b hsy (kB_S hb).1) rfl trivial (by decide) ?_
    rintro sv H' G' ⟨rfl, rfl, rfl⟩ -
    rw [decide_eq_true rfl]
    refine ⟨Nat.le_of_ble_eq_true rfl, ?_⟩
    repeat' ((fail_if_success with_reducible refine Stop.mk ?_); (conv => whnf); with_reducible first | refine br_t ?_ | refine br_f ?_ | refine br_nn ?_ | refine br_ns ?_ | refine br_not ?_ | refine br_d (fun h => ?_) (fun h => ?_) | refine br_e (fun h => ?_) (fun h => ?_) | refine br_n (fun h => ?_) (fun h => ?_) | refine drw (by kernel_rfl) ?_ | refine chk (by kernel_rfl) ?_ | refine stop ?_)
    all_goals refine Stop.mk ?_
    all_goals try (exfalso; omega)
    rotate_left
    · exact fin_id hE 0 rfl rfl rfl rfl ⟨rfl, rfl⟩
    have hL : ids.length = cs.length := by omega
    refine call_fn [] (pack_fn _ B C c2 c3 ids cs hids hcs (by omega) (by omega)) rfl trivial (by decide) ?_
    intro sv H' G' hp hg
    rw [PackPost, if_pos hL] at hp
    obtain ⟨rfl, rfl⟩ := hp
    replace hids := hids.to hg
    replace hcs := hcs.to hg
    clear hg
    refine ⟨Nat.le_of_ble_eq_true rfl, ?_⟩
    have hlen : (packB ids cs).length = sizeB cs := packB_len ids cs hL
    have hsq := sizeB_le cs
    have hg2 := splitR_good hL hsi.2 hok (by omega)
    have hbp : isB (packB ids cs) := packB_isb hsi.2 (fun d hd => ⟨(hok d hd).1, by have := (hok d hd).2; omega⟩)
    repeat' ((fail_if_success with_reducible refine Stop.mk ?_); (conv => whnf); with_reducible first | refine br_t ?_ | refine br_f ?_ | refine br_nn ?_ | refine br_ns ?_ | refine br_not ?_ | refine br_d (fun h => ?_) (fun h => ?_) | refine br_e (fun h => ?_) (fun h => ?_) | refine br_n (fun h => ?_) (fun h => ?_) | refine drw (by kernel_rfl) ?_ | refine chk (by kernel_rfl) ?_ | refine stop ?_)
    all_goals refine Stop.mk ?_
    refine call_fz 2 rfl (byts_one _) (enters_of Try.func13 rfl rfl) fun Az cz Gz hgz hsz => ?_
    (conv => whnf)
    have hsz' := hsz
    replace hids := hids.to hgz
    replace hcs := hcs.to hgz
    refine call_fn [] (split_fn _ Az B cz c2 (packB ids cs) ids hbp hsz' hids (by omega) (by omega)) rfl trivial (by decide) ?_
    intro sv H' G' hp hg
    rw [SplitPost, hg2, if_pos rfl] at hp
    obtain ⟨valz, rfl, rfl, hvz⟩ := hp
    replace hcs := hcs.to hg
    clear hg
    refine ⟨Nat.le_of_ble_eq_true rfl, ?_⟩
    repeat' ((fail_if_success with_reducible refine Stop.mk ?_); (conv => whnf); with_reducible first | refine br_t ?_ | refine br_f ?_ | refine br_nn ?_ | refine br_ns ?_ | refine br_not ?_ | refine br_d (fun h => ?_) (fun h => ?_) | refine br_e (fun h => ?_) (fun h => ?_) | refine br_n (fun h => ?_) (fun h => ?_) | refine drw (by kernel_rfl) ?_ | refine chk (by kernel_rfl) ?_ | refine stop ?_)
    all_goals refine Stop.mk ?_
    all_goals try (rename_i h; exact absurd rfl h)
    refine call_fz 3 rfl (hvz.ones) (enters_of Try.func15 rfl rfl) fun Aw cw Gw hgw hsw => ?_
    (conv => whnf)
    replace hcs := hcs.to hgw
    refine call_fn [] (rsame_fn _ Aw C cw c3 cs cs (Kd.S.of hsw rfl rfl (hvz.to hgw)) hcs) rfl trivial (by decide) ?_
    rintro sv H' G' ⟨rfl, rfl⟩ -
    rw [decide_eq_true rfl]
    refine ⟨Nat.le_of_ble_eq_true rfl, ?_⟩
    repeat' ((fail_if_success with_reducible refine Stop.mk ?_); (conv => whnf); with_reducible first | refine br_t ?_ | refine br_f ?_ | refine br_nn ?_ | refine br_ns ?_ | refine br_not ?_ | refine br_d (fun h => ?_) (fun h => ?_) | refine br_e (fun h => ?_) (fun h => ?_) | refine br_n (fun h => ?_) (fun h => ?_) | refine drw (by kernel_rfl) ?_ | refine chk (by kernel_rfl) ?_ | refine stop ?_)
    all_goals refine Stop.mk ?_
    exact fin_id hE 0 rfl rfl rfl rfl ⟨rfl, rfl⟩
  · refine call_fn [] (split_fn _ A B c c2 b ids hsb.2 hsb.1 hids (by omega) (by omega)) rfl trivial (by decide) ?_
    intro sv H' G' hp hg
    rw [SplitPost, if_neg hR] at hp
    obtain ⟨rfl, rfl⟩ := hp
    replace hids := hids.to hg
    replace hcs := hcs.to hg
    clear hg
    refine ⟨Nat.le_of_ble_eq_true rfl, ?_⟩
    repeat' ((fail_if_success with_reducible refine Stop.mk ?_); (conv => whnf); with_reducible first | refine br_t ?_ | refine br_f ?_ | refine br_nn ?_ | refine br_ns ?_ | refine br_not ?_ | refine br_d (fun h => ?_) (fun h => ?_) | refine br_e (fun h => ?_) (fun h => ?_) | refine br_n (fun h => ?_) (fun h => ?_) | refine drw (by kernel_rfl) ?_ | refine chk (by kernel_rfl) ?_ | refine stop ?_)
    all_goals refine Stop.mk ?_
    all_goals try (exfalso; omega)
    rotate_left
    · exact fin_id hE 0 rfl rfl rfl rfl ⟨rfl, rfl⟩
    have hL : ids.length = cs.length := by omega
    refine call_fn [] (pack_fn _ B C c2 c3 ids cs hids hcs (by omega) (by omega)) rfl trivial (by decide) ?_
    intro sv H' G' hp hg
    rw [PackPost, if_pos hL] at hp
    obtain ⟨rfl, rfl⟩ := hp
    replace hids := hids.to hg
    replace hcs := hcs.to hg
    clear hg
    refine ⟨Nat.le_of_ble_eq_true rfl, ?_⟩
    have hlen : (packB ids cs).length = sizeB cs := packB_len ids cs hL
    have hsq := sizeB_le cs
    have hg2 := splitR_good hL hsi.2 hok (by omega)
    have hbp : isB (packB ids cs) := packB_isb hsi.2 (fun d hd => ⟨(hok d hd).1, by have := (hok d hd).2; omega⟩)
    repeat' ((fail_if_success with_reducible refine Stop.mk ?_); (conv => whnf); with_reducible first | refine br_t ?_ | refine br_f ?_ | refine br_nn ?_ | refine br_ns ?_ | refine br_not ?_ | refine br_d (fun h => ?_) (fun h => ?_) | refine br_e (fun h => ?_) (fun h => ?_) | refine br_n (fun h => ?_) (fun h => ?_) | refine drw (by kernel_rfl) ?_ | refine chk (by kernel_rfl) ?_ | refine stop ?_)
    all_goals refine Stop.mk ?_
    refine call_fz 0 rfl (byts_one _) (enters_of Try.func13 rfl rfl) fun Az cz Gz hgz hsz => ?_
    (conv => whnf)
    have hsz' := hsz
    replace hids := hids.to hgz
    replace hcs := hcs.to hgz
    refine call_fn [] (split_fn _ Az B cz c2 (packB ids cs) ids hbp hsz' hids (by omega) (by omega)) rfl trivial (by decide) ?_
    intro sv H' G' hp hg
    rw [SplitPost, hg2, if_pos rfl] at hp
    obtain ⟨valz, rfl, rfl, hvz⟩ := hp
    replace hcs := hcs.to hg
    clear hg
    refine ⟨Nat.le_of_ble_eq_true rfl, ?_⟩
    repeat' ((fail_if_success with_reducible refine Stop.mk ?_); (conv => whnf); with_reducible first | refine br_t ?_ | refine br_f ?_ | refine br_nn ?_ | refine br_ns ?_ | refine br_not ?_ | refine br_d (fun h => ?_) (fun h => ?_) | refine br_e (fun h => ?_) (fun h => ?_) | refine br_n (fun h => ?_) (fun h => ?_) | refine drw (by kernel_rfl) ?_ | refine chk (by kernel_rfl) ?_ | refine stop ?_)
    all_goals refine Stop.mk ?_
    all_goals try (rename_i h; exact absurd rfl h)
    refine call_fz 1 rfl (hvz.ones) (enters_of Try.func15 rfl rfl) fun Aw cw Gw hgw hsw => ?_
    (conv => whnf)
    replace hcs := hcs.to hgw
    refine call_fn [] (rsame_fn _ Aw C cw c3 cs cs (Kd.S.of hsw rfl rfl (hvz.to hgw)) hcs) rfl trivial (by decide) ?_
    rintro sv H' G' ⟨rfl, rfl⟩ -
    rw [decide_eq_true rfl]
    refine ⟨Nat.le_of_ble_eq_true rfl, ?_⟩
    repeat' ((fail_if_success with_reducible refine Stop.mk ?_); (conv => whnf); with_reducible first | refine br_t ?_ | refine br_f ?_ | refine br_nn ?_ | refine br_ns ?_ | refine br_not ?_ | refine br_d (fun h => ?_) (fun h => ?_) | refine br_e (fun h => ?_) (fun h => ?_) | refine br_n (fun h => ?_) (fun h => ?_) | refine drw (by kernel_rfl) ?_ | refine chk (by kernel_rfl) ?_ | refine stop ?_)
    all_goals refine Stop.mk ?_
    exact fin_id hE 0 rfl rfl rfl rfl ⟨rfl, rfl⟩
end Go.Proofs.Ytgdfhpknhcjipaa.Cu
