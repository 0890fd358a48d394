/- The law's own check. -/
import Derived.Test.YtgdfhpknhcjipaaSe4
namespace Go.Proofs.Ytgdfhpknhcjipaa.Cu
open Go Go.SX Go.Proofs.Ytgdfhpknhcjipaa.VT
set_option maxRecDepth 100000
set_option linter.unusedVariables false
set_option linter.unusedSimpArgs false

theorem kB_of {G : Gh} {A : Option Addr} {n c sz : Nat} {xs : List Value} (l : List Int) (h : Sl G A n c sz xs) (h1 : n = l.length) (h2 : sz = 1) (h3 : xs = byts l) (hb : isB l) : kB.S G A c l := S_kB (SlB.of l h h1 h2 h3) hb
theorem kBs_of {G : Gh} {A : Option Addr} {n c sz : Nat} {xs : List Value} (ls : List (List Int)) (h : Sl G A n c sz xs) (h1 : n = ls.length) (h2 : sz = 1) (h3 : kBs.Cs G ls xs) : kBs.S G A c ls := Kd.S.of h h1 h2 h3
theorem cs1 {G : Gh} {l : List Int} {cells : List Value} (h : kBs.R G l cells) : kBs.Cs G [l] cells := ⟨[cells], ⟨h, trivial⟩, by simp⟩
set_option maxHeartbeats 8000000 in
theorem awake3_fn (G : Gh) : Ct Try.prog 11 [] [] G fun sv H' G' => sv = .v (.bool true) ∧ H' = [] := by
  refine fn_of follows [] Try.func11 rfl rfl fun E hE => ?_
  repeat' ((fail_if_success with_reducible refine Stop.mk ?_); (conv => whnf); with_reducible first | refine br_t ?_ | refine br_f ?_ | refine br_nn ?_ | refine br_ns ?_ | refine br_not ?_ | refine br_d (fun h => ?_) (fun h => ?_) | refine br_e (fun h => ?_) (fun h => ?_) | refine br_n (fun h => ?_) (fun h => ?_) | refine drw (by kernel_rfl) ?_ | refine chk (by kernel_rfl) ?_ | refine stop ?_)
  all_goals refine Stop.mk ?_
  refine call_fz 0 rfl (by simp [Value.oneCell']) (enters_of Try.func16 rfl rfl) fun A0 c0 G0 hg0 hs0 => ?_
  (conv => whnf)
  refine call_fz 1 rfl (by simp [Value.oneCell']) (enters_of Try.func16 rfl rfl) fun A1 c1 G1 hg1 hs1 => ?_
  (conv => whnf)
  refine call_lit 2 1 rfl rfl rfl (by decide) (enters_of Try.func16 rfl rfl) ?_
  (conv => whnf)
  refine call_fz 2 rfl (by simp [Value.oneCell']) (enters_of Try.func16 rfl rfl) fun A2 c2 G2 hg2 hs2 => ?_
  (conv => whnf)
  refine call_fn [] (pack_fn _ A0 A2 c0 c2 [5] [[1, 2]] (kB_of [5] (Sl.to hg2 (Sl.to hg1 hs0)) rfl rfl rfl (by decide)) (kBs_of [[1, 2]] hs2 rfl rfl (cs1 (R_kBs (SlB.of [1, 2] (Sl.to hg2 hs1) rfl rfl rfl) (by decide)))) (by decide) (by decide)) rfl trivial (by decide) ?_
  intro sv H' G' hp hg
  rw [PackPost, if_pos (by decide)] at hp
  obtain ⟨rfl, rfl⟩ := hp
  refine ⟨Nat.le_of_ble_eq_true rfl, ?_⟩
  rw [show packB [5] [[1, 2]] = [5, 2, 1, 2] by decide]
  clear hg
  repeat' ((fail_if_success with_reducible refine Stop.mk ?_); (conv => whnf); with_reducible first | refine br_t ?_ | refine br_f ?_ | refine br_nn ?_ | refine br_ns ?_ | refine br_not ?_ | refine br_d (fun h => ?_) (fun h => ?_) | refine br_e (fun h => ?_) (fun h => ?_) | refine br_n (fun h => ?_) (fun h => ?_) | refine drw (by kernel_rfl) ?_ | refine chk (by kernel_rfl) ?_ | refine stop ?_)
  all_goals refine Stop.mk ?_
  refine call_fz 4 rfl (by simp [Value.oneCell']) (enters_of Try.func13 rfl rfl) fun A4 c4 G4 hg4 hs4 => ?_
  (conv => whnf)
  refine call_fz 5 rfl (by simp [Value.oneCell']) (enters_of Try.func13 rfl rfl) fun A5 c5 G5 hg5 hs5 => ?_
  (conv => whnf)
  refine call_fn [] (split_fn _ A4 A5 c4 c5 [5, 2, 1] [5] (by decide) (SlB.of [5, 2, 1] (Sl.to hg5 hs4) rfl rfl rfl) (kB_of [5] hs5 rfl rfl rfl (by decide)) (by decide) (by decide)) rfl trivial (by decide) ?_
  intro sv H' G' hp hg
  unfold SplitPost at hp
  rw [if_neg (by decide)] at hp
  obtain ⟨rfl, rfl⟩ := hp
  refine ⟨Nat.le_of_ble_eq_true rfl, ?_⟩
  rw [show (splitR [5] [5, 2, 1]).2 = 1 by decide]
  clear hg
  repeat' ((fail_if_success with_reducible refine Stop.mk ?_); (conv => whnf); with_reducible first | refine br_t ?_ | refine br_f ?_ | refine br_nn ?_ | refine br_ns ?_ | refine br_not ?_ | refine br_d (fun h => ?_) (fun h => ?_) | refine br_e (fun h => ?_) (fun h => ?_) | refine br_n (fun h => ?_) (fun h => ?_) | refine drw (by kernel_rfl) ?_ | refine chk (by kernel_rfl) ?_ | refine stop ?_)
  all_goals refine Stop.mk ?_
  refine call_fz 6 rfl (by simp [Value.oneCell']) (enters_of Try.func13 rfl rfl) fun A6 c6 G6 hg6 hs6 => ?_
  (conv => whnf)
  refine call_fz 7 rfl (by simp [Value.oneCell']) (enters_of Try.func13 rfl rfl) fun A7 c7 G7 hg7 hs7 => ?_
  (conv => whnf)
  refine call_fn [] (split_fn _ A6 A7 c6 c7 [5, 2, 1] [6] (by decide) (SlB.of [5, 2, 1] (Sl.to hg7 hs6) rfl rfl rfl) (kB_of [6] hs7 rfl rfl rfl (by decide)) (by decide) (by decide)) rfl trivial (by decide) ?_
  intro sv H' G' hp hg
  unfold SplitPost at hp
  rw [if_neg (by decide)] at hp
  obtain ⟨rfl, rfl⟩ := hp
  refine ⟨Nat.le_of_ble_eq_true rfl, ?_⟩
  rw [show (splitR [6] [5, 2, 1]).2 = 7 by decide]
  clear hg
  repeat' ((fail_if_success with_reducible refine Stop.mk ?_); (conv => whnf); with_reducible first | refine br_t ?_ | refine br_f ?_ | refine br_nn ?_ | refine br_ns ?_ | refine br_not ?_ | refine br_d (fun h => ?_) (fun h => ?_) | refine br_e (fun h => ?_) (fun h => ?_) | refine br_n (fun h => ?_) (fun h => ?_) | refine drw (by kernel_rfl) ?_ | refine chk (by kernel_rfl) ?_ | refine stop ?_)
  all_goals refine Stop.mk ?_
  refine call_fz 8 rfl (by simp [Value.oneCell']) (enters_of Try.func13 rfl rfl) fun A8 c8 G8 hg8 hs8 => ?_
  (conv => whnf)
  refine call_fz 9 rfl (by simp [Value.oneCell']) (enters_of Try.func13 rfl rfl) fun A9 c9 G9 hg9 hs9 => ?_
  (conv => whnf)
  refine call_fn [] (split_fn _ A8 A9 c8 c9 [5, 2, 1, 2] [5] (by decide) (SlB.of [5, 2, 1, 2] (Sl.to hg9 hs8) rfl rfl rfl) (kB_of [5] hs9 rfl rfl rfl (by decide)) (by decide) (by decide)) rfl trivial (by decide) ?_
  intro sv H' G' hp hg
  unfold SplitPost at hp
  rw [if_pos (by decide), show (splitR [5] [5, 2, 1, 2]).1 = [[1, 2]] by decide] at hp
  obtain ⟨vals, rfl, rfl, hv⟩ := hp
  refine ⟨Nat.le_of_ble_eq_true rfl, ?_⟩
  clear hg
  repeat' ((fail_if_success with_reducible refine Stop.mk ?_); (conv => whnf); with_reducible first | refine br_t ?_ | refine br_f ?_ | refine br_nn ?_ | refine br_ns ?_ | refine br_not ?_ | refine br_d (fun h => ?_) (fun h => ?_) | refine br_e (fun h => ?_) (fun h => ?_) | refine br_n (fun h => ?_) (fun h => ?_) | refine drw (by kernel_rfl) ?_ | refine chk (by kernel_rfl) ?_ | refine stop ?_)
  all_goals refine Stop.mk ?_
  refine call_fz 11 rfl (by simp [Value.oneCell']) (enters_of Try.func13 rfl rfl) fun A11 c11 G11 hg11 hs11 => ?_
  (conv => whnf)
  refine call_fz 12 rfl (by simp [Value.oneCell']) (enters_of Try.func13 rfl rfl) fun A12 c12 G12 hg12 hs12 => ?_
  (conv => whnf)
  refine call_fn [] (split_fn _ A11 A12 c11 c12 [5, 0, 9] [5] (by decide) (SlB.of [5, 0, 9] (Sl.to hg12 hs11) rfl rfl rfl) (kB_of [5] hs12 rfl rfl rfl (by decide)) (by decide) (by decide)) rfl trivial (by decide) ?_
  intro sv H' G' hp hg
  unfold SplitPost at hp
  rw [if_neg (by decide)] at hp
  obtain ⟨rfl, rfl⟩ := hp
  refine ⟨Nat.le_of_ble_eq_true rfl, ?_⟩
  rw [show (splitR [5] [5, 0, 9]).2 = 2 by decide]
  replace hv := hv.to (fun b o h => hg b o (hg12 b o (hg11 b o h)))
  clear hg
  repeat' ((fail_if_success with_reducible refine Stop.mk ?_); (conv => whnf); with_reducible first | refine br_t ?_ | refine br_f ?_ | refine br_nn ?_ | refine br_ns ?_ | refine br_not ?_ | refine br_d (fun h => ?_) (fun h => ?_) | refine br_e (fun h => ?_) (fun h => ?_) | refine br_n (fun h => ?_) (fun h => ?_) | refine drw (by kernel_rfl) ?_ | refine chk (by kernel_rfl) ?_ | refine stop ?_)
  all_goals refine Stop.mk ?_
  refine call_fz 13 rfl (by simp [Value.oneCell']) (enters_of Try.func16 rfl rfl) fun A13 c13 G13 hg13 hs13 => ?_
  (conv => whnf)
  refine call_fz 14 rfl (by simp [Value.oneCell']) (enters_of Try.func16 rfl rfl) fun A14 c14 G14 hg14 hs14 => ?_
  (conv => whnf)
  refine call_fn [] (pack_fn _ A13 A14 c13 c14 [5, 6] [[]] (kB_of [5, 6] (Sl.to hg14 hs13) rfl rfl rfl (by decide)) (kBs_of [[]] hs14 rfl rfl (cs1 (R_kBs (slB_nil _) (by decide)))) (by decide) (by decide)) rfl trivial (by decide) ?_
  intro sv H' G' hp hg
  rw [PackPost, if_neg (by decide)] at hp
  obtain ⟨rfl, rfl⟩ := hp
  refine ⟨Nat.le_of_ble_eq_true rfl, ?_⟩
  replace hv := hv.to (fun b o h => hg b o (hg14 b o (hg13 b o h)))
  clear hg
  repeat' ((fail_if_success with_reducible refine Stop.mk ?_); (conv => whnf); with_reducible first | refine br_t ?_ | refine br_f ?_ | refine br_nn ?_ | refine br_ns ?_ | refine br_not ?_ | refine br_d (fun h => ?_) (fun h => ?_) | refine br_e (fun h => ?_) (fun h => ?_) | refine br_n (fun h => ?_) (fun h => ?_) | refine drw (by kernel_rfl) ?_ | refine chk (by kernel_rfl) ?_ | refine stop ?_)
  all_goals refine Stop.mk ?_
  refine call_fz 3 rfl (byts_one _) (enters_of Try.func18 rfl rfl) fun A3 c3 G3 hg3 hs3 => ?_
  (conv => whnf)
  refine call_fz 15 rfl (by simp [Value.oneCell']) (enters_of Try.func18 rfl rfl) fun A15 c15 G15 hg15 hs15 => ?_
  (conv => whnf)
  refine call_fn [] (same_fn _ A3 A15 c3 c15 [5, 2, 1, 2] [5, 2, 1, 2] (SlB.of [5, 2, 1, 2] (Sl.to hg15 hs3) rfl rfl rfl) (SlB.of [5, 2, 1, 2] hs15 rfl rfl rfl)) rfl trivial (by decide) ?_
  rintro sv H' G' ⟨rfl, rfl, rfl⟩ -
  refine ⟨Nat.le_of_ble_eq_true rfl, ?_⟩
  rw [show decide ([5, 2, 1, 2] = ([5, 2, 1, 2] : List Int)) = true by decide]
  replace hv := hv.to (fun b o h => hg15 b o (hg3 b o h))
  repeat' ((fail_if_success with_reducible refine Stop.mk ?_); (conv => whnf); with_reducible first | refine br_t ?_ | refine br_f ?_ | refine br_nn ?_ | refine br_ns ?_ | refine br_not ?_ | refine br_d (fun h => ?_) (fun h => ?_) | refine br_e (fun h => ?_) (fun h => ?_) | refine br_n (fun h => ?_) (fun h => ?_) | refine drw (by kernel_rfl) ?_ | refine chk (by kernel_rfl) ?_ | refine stop ?_)
  all_goals refine Stop.mk ?_
  all_goals try (rename_i h; exact absurd rfl h)
  refine call_fz 10 rfl (hv.ones) (enters_of Try.func15 rfl rfl) fun A10 c10 G10 hg10 hs10 => ?_
  (conv => whnf)
  refine call_fz 16 rfl (by simp [Value.oneCell']) (enters_of Try.func15 rfl rfl) fun A16 c16 G16 hg16 hs16 => ?_
  (conv => whnf)
  refine call_lit 17 1 rfl rfl rfl (by decide) (enters_of Try.func15 rfl rfl) ?_
  (conv => whnf)
  refine call_fz 17 rfl (by simp [Value.oneCell']) (enters_of Try.func15 rfl rfl) fun A17 c17 G17 hg17 hs17 => ?_
  (conv => whnf)
  refine call_fn [] (rsame_fn _ A10 A17 c10 c17 [[1, 2]] [[1, 2]] ((kBs_of [[1, 2]] hs10 rfl rfl (hv.to hg10)).to (fun b o h => hg17 b o (hg16 b o h))) (kBs_of [[1, 2]] hs17 rfl rfl (cs1 (R_kBs (SlB.of [1, 2] (Sl.to hg17 hs16) rfl rfl rfl) (by decide))))) rfl trivial (by decide) ?_
  rintro sv H' G' ⟨rfl, rfl⟩ -
  refine ⟨Nat.le_of_ble_eq_true rfl, ?_⟩
  rw [show decide ([[1, 2]] = ([[1, 2]] : List (List Int))) = true by decide]
  repeat' ((fail_if_success with_reducible refine Stop.mk ?_); (conv => whnf); with_reducible first | refine br_t ?_ | refine br_f ?_ | refine br_nn ?_ | refine br_ns ?_ | refine br_not ?_ | refine br_d (fun h => ?_) (fun h => ?_) | refine br_e (fun h => ?_) (fun h => ?_) | refine br_n (fun h => ?_) (fun h => ?_) | refine drw (by kernel_rfl) ?_ | refine chk (by kernel_rfl) ?_ | refine stop ?_)
  all_goals refine Stop.mk ?_
  all_goals try (rename_i h; exact absurd rfl h)
  refine call_fz 18 rfl (by simp [Value.oneCell']) (enters_of Try.func19 rfl rfl) fun A18 c18 G18 hg18 hs18 => ?_
  (conv => whnf)
  refine call_lit 19 1 rfl rfl rfl (by decide) (enters_of Try.func19 rfl rfl) ?_
  (conv => whnf)
  refine call_fz 19 rfl (by simp [Value.oneCell']) (enters_of Try.func19 rfl rfl) fun A19 c19 G19 hg19 hs19 => ?_
  (conv => whnf)
  refine call_fn [] (size_fn _ A19 c19 [[1, 2]] (kBs_of [[1, 2]] hs19 rfl rfl (cs1 (R_kBs (SlB.of [1, 2] (Sl.to hg19 hs18) rfl rfl rfl) (by decide)))) (by decide) (by decide)) rfl trivial (by decide) ?_
  rintro sv H' G' ⟨rfl, rfl, rfl⟩ -
  refine ⟨Nat.le_of_ble_eq_true rfl, ?_⟩
  rw [show (sizeB [[1, 2]] : Int) = 4 by decide]
  repeat' ((fail_if_success with_reducible refine Stop.mk ?_); (conv => whnf); with_reducible first | refine br_t ?_ | refine br_f ?_ | refine br_nn ?_ | refine br_ns ?_ | refine br_not ?_ | refine br_d (fun h => ?_) (fun h => ?_) | refine br_e (fun h => ?_) (fun h => ?_) | refine br_n (fun h => ?_) (fun h => ?_) | refine drw (by kernel_rfl) ?_ | refine chk (by kernel_rfl) ?_ | refine stop ?_)
  all_goals refine Stop.mk ?_
  exact fin_id hE 0 rfl rfl rfl rfl ⟨rfl, rfl⟩
end Go.Proofs.Ytgdfhpknhcjipaa.Cu
