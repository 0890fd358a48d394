/- Edges: awake of law15. -/
import Derived.Test.YtglelcgllodhoaaEd4
namespace Go.Proofs.Ytglelcgllodhoaa.Cu
open Go Go.SX Go.Proofs.Ytglelcgllodhoaa.VT
set_option maxRecDepth 100000
set_option linter.unusedVariables false
set_option linter.unusedSimpArgs false
theorem prs_cs (G : Gh) : ∀ (l : List Pr), (∀ p ∈ l, in64 p.v ∧ in64 p.l) → kPr.Cs G l ((l.map prv).flatten)
  | [], _ => Kd.Cs.nil _ _
  | p :: l, h => by
    obtain ⟨css, h1, h2⟩ := prs_cs G l (fun q hq => h q (by simp [hq]))
    refine ⟨prv p :: css, ⟨⟨rfl, h p (by simp)⟩, h1⟩, ?_⟩
    simp [h2]
theorem prs_of {G : Gh} {A : Option Addr} {n c : Nat} {vals : List Value} (l : List Pr) (hs : Sl G A n c 2 vals) (hn : n = l.length) (hv : vals = (l.map prv).flatten) (h : ∀ p ∈ l, in64 p.v ∧ in64 p.l) : kPr.S G A c l := by
  subst hn hv
  exact Kd.S.of hs rfl rfl (prs_cs G l h)
set_option maxHeartbeats 4000000 in
theorem miss_nil_fn (G : Gh) (A : Option Addr) (c : Nat) (p : Pr) (l : List Pr) (hl : kPr.S G A c (p :: l)) :
    Ct Try.prog 46 [.v (.slice A (p :: l).length c), .v (.slice none 0 0)] [] G fun sv H' G' => sv = .tup [p.sv, .v (.bool true)] ∧ H' = [] ∧ G' = G := by
  refine fn_of follows [(5, (.cons 0 [] (.cons 1 [] (.cons 2 [] (.cons 3 [] (.cons 4 [] (.cons 5 [] (.cons 6 [] (.cons 7 [] (.cons 8 [] (.cons 9 [] (.cons 10 [8, 9] (.cons 11 [] .nil))))))))))))), (7, (.cons 0 [] (.cons 1 [] (.cons 2 [] (.cons 3 [] (.cons 4 [] (.cons 5 [] (.cons 6 [] (.cons 7 [] (.cons 8 [] (.cons 9 [] (.cons 10 [] (.cons 11 [] .nil)))))))))))))] Try.func46 rfl rfl fun E hE => ?_
  have hcap := hl.cap
  repeat' ((fail_if_success with_reducible refine Stop.mk ?_); (conv => whnf); with_reducible first | refine br_t ?_ | refine br_f ?_ | refine br_nn ?_ | refine br_ns ?_ | refine br_not ?_ | refine br_d (fun h => ?_) (fun h => ?_) | refine br_e (fun h => ?_) (fun h => ?_) | refine br_n (fun h => ?_) (fun h => ?_) | refine drw (by kernel_rfl) ?_ | refine chk (by kernel_rfl) ?_ | refine stop ?_)
  all_goals refine Stop.mk ?_
  refine loop_unroll follows [(5, (.cons 0 [] (.cons 1 [] (.cons 2 [] (.cons 3 [] (.cons 4 [] (.cons 5 [] (.cons 6 [] (.cons 7 [] (.cons 8 [] (.cons 9 [] (.cons 10 [8, 9] (.cons 11 [] .nil))))))))))))), (7, (.cons 0 [] (.cons 1 [] (.cons 2 [] (.cons 3 [] (.cons 4 [] (.cons 5 [] (.cons 6 [] (.cons 7 [] (.cons 8 [] (.cons 9 [] (.cons 10 [] (.cons 11 [] .nil)))))))))))))] 1 ?_
  repeat' ((fail_if_success with_reducible refine Stop.mk ?_); (conv => whnf); first | with_reducible refine br_t ?_ | with_reducible refine br_f ?_ | with_reducible refine br_nn ?_ | with_reducible refine br_ns ?_ | with_reducible refine br_not ?_ | ((with_reducible refine br_d (fun h => ?_) (fun h => ?_)) <;> try (exfalso; omega)) | ((with_reducible refine br_e (fun h => ?_) (fun h => ?_)) <;> try (exfalso; omega)) | ((with_reducible refine br_n (fun h => ?_) (fun h => ?_)) <;> try (exfalso; omega)) | with_reducible refine drw (by kernel_rfl) ?_ | with_reducible refine chk (by kernel_rfl) ?_ | with_reducible refine stop ?_)
  all_goals refine Stop.mk ?_
  all_goals try (exfalso; simp at h; done)
  obtain ⟨_, hs_, hat_⟩ := hl.at (sz := 2) rfl
  refine ⟨⟨by omega, by omega⟩, _, hs_, fun ad had hadr => ?_⟩
  obtain ⟨q, cells, hq, hRq, hGq⟩ := hat_ 0 (by omega) ad (by first | exact had | (rw [Int.toNat_natCast] at had; exact had))
  clear had hat_ hs_
  obtain rfl : q = p := by simp at hq; exact hq.symm
  obtain ⟨rfl, hp1, hp2⟩ := hRq
  repeat' ((fail_if_success with_reducible refine Stop.mk ?_); (conv => whnf); with_reducible first | refine br_t ?_ | refine br_f ?_ | refine br_nn ?_ | refine br_ns ?_ | refine br_not ?_ | refine br_d (fun h => ?_) (fun h => ?_) | refine br_e (fun h => ?_) (fun h => ?_) | refine br_n (fun h => ?_) (fun h => ?_) | refine drw (by kernel_rfl) ?_ | refine chk (by kernel_rfl) ?_ | refine stop ?_)
  all_goals refine Stop.mk ?_
  refine ⟨_, rfl, hGq, ?_⟩
  repeat' ((fail_if_success with_reducible refine Stop.mk ?_); (conv => whnf); with_reducible first | refine br_t ?_ | refine br_f ?_ | refine br_nn ?_ | refine br_ns ?_ | refine br_not ?_ | refine br_d (fun h => ?_) (fun h => ?_) | refine br_e (fun h => ?_) (fun h => ?_) | refine br_n (fun h => ?_) (fun h => ?_) | refine drw (by kernel_rfl) ?_ | refine chk (by kernel_rfl) ?_ | refine stop ?_)
  all_goals refine Stop.mk ?_
  refine loop_opq fun K0 hK0 => ?_
  refine loop_unroll follows [(5, (.cons 0 [] (.cons 1 [] (.cons 2 [] (.cons 3 [] (.cons 4 [] (.cons 5 [] (.cons 6 [] (.cons 7 [] (.cons 8 [] (.cons 9 [] (.cons 10 [8, 9] (.cons 11 [] .nil))))))))))))), (7, (.cons 0 [] (.cons 1 [] (.cons 2 [] (.cons 3 [] (.cons 4 [] (.cons 5 [] (.cons 6 [] (.cons 7 [] (.cons 8 [] (.cons 9 [] (.cons 10 [] (.cons 11 [] .nil)))))))))))))] 1 ?_
  repeat' ((fail_if_success with_reducible refine Stop.mk ?_); (conv => whnf); first | with_reducible refine br_t ?_ | with_reducible refine br_f ?_ | with_reducible refine br_nn ?_ | with_reducible refine br_ns ?_ | with_reducible refine br_not ?_ | ((with_reducible refine br_d (fun h => ?_) (fun h => ?_)) <;> try (exfalso; omega)) | ((with_reducible refine br_e (fun h => ?_) (fun h => ?_)) <;> try (exfalso; omega)) | ((with_reducible refine br_n (fun h => ?_) (fun h => ?_)) <;> try (exfalso; omega)) | with_reducible refine drw (by kernel_rfl) ?_ | with_reducible refine chk (by kernel_rfl) ?_ | with_reducible refine stop ?_)
  all_goals refine Stop.mk ?_
  refine Stop.mk (hK0 _ _ ?_)
  clear hK0
  repeat' ((fail_if_success with_reducible refine Stop.mk ?_); (conv => whnf); first | with_reducible refine br_t ?_ | with_reducible refine br_f ?_ | with_reducible refine br_nn ?_ | with_reducible refine br_ns ?_ | with_reducible refine br_not ?_ | ((with_reducible refine br_d (fun h => ?_) (fun h => ?_)) <;> try (exfalso; omega)) | ((with_reducible refine br_e (fun h => ?_) (fun h => ?_)) <;> try (exfalso; omega)) | ((with_reducible refine br_n (fun h => ?_) (fun h => ?_)) <;> try (exfalso; omega)) | with_reducible refine drw (by kernel_rfl) ?_ | with_reducible refine chk (by kernel_rfl) ?_ | with_reducible refine stop ?_)
  all_goals refine Stop.mk ?_
  exact fin_id hE 0 rfl rfl rfl rfl ⟨rfl, rfl, rfl⟩
theorem imp_nil_fn (G : Gh) (A : Option Addr) (c : Nat) (p : Pr) (l : List Pr) (hl : kPr.S G A c (p :: l)) :
    Ct Try.prog 27 [.v (.slice none 0 0), .v (.slice A (p :: l).length c)] [] G fun sv H' G' => sv = .tup [p.sv, .v (.int .i64 22)] ∧ H' = [] ∧ G' = G := by
  refine fn_of follows [] Try.func27 rfl rfl fun E hE => ?_
  repeat' ((fail_if_success with_reducible refine Stop.mk ?_); (conv => whnf); with_reducible first | refine br_t ?_ | refine br_f ?_ | refine br_nn ?_ | refine br_ns ?_ | refine br_not ?_ | refine br_d (fun h => ?_) (fun h => ?_) | refine br_e (fun h => ?_) (fun h => ?_) | refine br_n (fun h => ?_) (fun h => ?_) | refine drw (by kernel_rfl) ?_ | refine chk (by kernel_rfl) ?_ | refine stop ?_)
  all_goals refine Stop.mk ?_
  refine call_fn [] (miss_nil_fn _ A c p l hl) rfl trivial (by decide) ?_
  rintro sv H' G' ⟨rfl, rfl, rfl⟩ -
  refine ⟨Nat.le_of_ble_eq_true rfl, ?_⟩
  unfold Pr.sv
  repeat' ((fail_if_success with_reducible refine Stop.mk ?_); (conv => whnf); with_reducible first | refine br_t ?_ | refine br_f ?_ | refine br_nn ?_ | refine br_ns ?_ | refine br_not ?_ | refine br_d (fun h => ?_) (fun h => ?_) | refine br_e (fun h => ?_) (fun h => ?_) | refine br_n (fun h => ?_) (fun h => ?_) | refine drw (by kernel_rfl) ?_ | refine chk (by kernel_rfl) ?_ | refine stop ?_)
  all_goals refine Stop.mk ?_
  exact fin_id hE 0 rfl rfl rfl rfl ⟨rfl, rfl, rfl⟩
theorem in64_of {x : Int} (h : -1000 ≤ x ∧ x ≤ 1000) : in64 x := ⟨by omega, by omega⟩
theorem prs_in : ∀ (l : List Pr), (l.all fun p => decide (-1000 ≤ p.v ∧ p.v ≤ 1000) && decide (-1000 ≤ p.l ∧ p.l ≤ 1000)) = true → ∀ p ∈ l, in64 p.v ∧ in64 p.l := fun l h p hp => by
  have := List.all_eq_true.1 h p hp
  simp only [Bool.and_eq_true, decide_eq_true_eq] at this
  exact ⟨in64_of this.1, in64_of this.2⟩
set_option maxHeartbeats 16000000 in
theorem awake15_fn (G : Gh) : Ct Try.prog 7 [] [] G fun sv H' G' => sv = .v (.bool true) ∧ H' = [] := by
  refine fn_of follows [] Try.func7 rfl rfl fun E hE => ?_
  repeat' ((fail_if_success with_reducible refine Stop.mk ?_); (conv => whnf); with_reducible first | refine br_t ?_ | refine br_f ?_ | refine br_nn ?_ | refine br_ns ?_ | refine br_not ?_ | refine br_d (fun h => ?_) (fun h => ?_) | refine br_e (fun h => ?_) (fun h => ?_) | refine br_n (fun h => ?_) (fun h => ?_) | refine drw (by kernel_rfl) ?_ | refine chk (by kernel_rfl) ?_ | refine stop ?_)
  all_goals refine Stop.mk ?_
  refine call_fz 0 rfl (by simp [Value.oneCell']) (enters_of Try.func18 rfl rfl) fun Aa ca Ga hga hsa => ?_
  (conv => whnf)
  refine call_fn [] (entry_fn _ Aa ca [⟨0, 1⟩, ⟨1, 1⟩] 1 (prs_of _ hsa rfl rfl (prs_in _ (by decide)))) rfl trivial (by decide) ?_
  rintro sv H' G' ⟨rfl, rfl, rfl⟩ -
  refine ⟨Nat.le_of_ble_eq_true rfl, ?_⟩
  rw [show entryP 1 [⟨0, 1⟩, ⟨1, 1⟩] = (⟨1, 1⟩, 23) by decide +kernel]
  unfold Pr.sv
  repeat' ((fail_if_success with_reducible refine Stop.mk ?_); (conv => whnf); with_reducible first | refine br_t ?_ | refine br_f ?_ | refine br_nn ?_ | refine br_ns ?_ | refine br_not ?_ | refine br_d (fun h => ?_) (fun h => ?_) | refine br_e (fun h => ?_) (fun h => ?_) | refine br_n (fun h => ?_) (fun h => ?_) | refine drw (by kernel_rfl) ?_ | refine chk (by kernel_rfl) ?_ | refine stop ?_)
  all_goals refine Stop.mk ?_
  refine call_fz 2 rfl (by simp [Value.oneCell']) (enters_of Try.func18 rfl rfl) fun Ab cb Gb hgb hsb => ?_
  (conv => whnf)
  refine call_fn [] (entry_fn _ Ab cb [⟨0, 1⟩, ⟨1, 0⟩, ⟨1, 3⟩] 1 (prs_of _ hsb rfl rfl (prs_in _ (by decide)))) rfl trivial (by decide) ?_
  rintro sv H' G' ⟨rfl, rfl, rfl⟩ -
  refine ⟨Nat.le_of_ble_eq_true rfl, ?_⟩
  rw [show entryP 1 [⟨0, 1⟩, ⟨1, 0⟩, ⟨1, 3⟩] = (⟨0, 0⟩, 0) by decide +kernel]
  unfold Pr.sv
  repeat' ((fail_if_success with_reducible refine Stop.mk ?_); (conv => whnf); with_reducible first | refine br_t ?_ | refine br_f ?_ | refine br_nn ?_ | refine br_ns ?_ | refine br_not ?_ | refine br_d (fun h => ?_) (fun h => ?_) | refine br_e (fun h => ?_) (fun h => ?_) | refine br_n (fun h => ?_) (fun h => ?_) | refine drw (by kernel_rfl) ?_ | refine chk (by kernel_rfl) ?_ | refine stop ?_)
  all_goals refine Stop.mk ?_
  refine call_fz 4 rfl (by simp [Value.oneCell']) (enters_of Try.func27 rfl rfl) fun Ad cd Gd hgd hsd => ?_
  (conv => whnf)
  refine call_fn [] (imp_nil_fn _ Ad cd ⟨2, 4⟩ [] (prs_of [⟨2, 4⟩] hsd rfl rfl (prs_in _ (by decide)))) rfl trivial (by decide) ?_
  rintro sv H' G' ⟨rfl, rfl, rfl⟩ -
  refine ⟨Nat.le_of_ble_eq_true rfl, ?_⟩
  unfold Pr.sv
  repeat' ((fail_if_success with_reducible refine Stop.mk ?_); (conv => whnf); with_reducible first | refine br_t ?_ | refine br_f ?_ | refine br_nn ?_ | refine br_ns ?_ | refine br_not ?_ | refine br_d (fun h => ?_) (fun h => ?_) | refine br_e (fun h => ?_) (fun h => ?_) | refine br_n (fun h => ?_) (fun h => ?_) | refine drw (by kernel_rfl) ?_ | refine chk (by kernel_rfl) ?_ | refine stop ?_)
  all_goals refine Stop.mk ?_
  refine call_fn [] (einit_fn _ ⟨0, 1⟩ 1 (in64_of (by decide))) rfl trivial (by decide) ?_
  rintro sv H' G' ⟨rfl, rfl, rfl⟩ -
  rw [show iniP 1 ⟨0, 1⟩ = true by decide +kernel]
  refine ⟨Nat.le_of_ble_eq_true rfl, ?_⟩
  repeat' ((fail_if_success with_reducible refine Stop.mk ?_); (conv => whnf); with_reducible first | refine br_t ?_ | refine br_f ?_ | refine br_nn ?_ | refine br_ns ?_ | refine br_not ?_ | refine br_d (fun h => ?_) (fun h => ?_) | refine br_e (fun h => ?_) (fun h => ?_) | refine br_n (fun h => ?_) (fun h => ?_) | refine drw (by kernel_rfl) ?_ | refine chk (by kernel_rfl) ?_ | refine stop ?_)
  all_goals refine Stop.mk ?_
  refine call_fn [] (einit_fn _ ⟨1, 3⟩ 1 (in64_of (by decide))) rfl trivial (by decide) ?_
  rintro sv H' G' ⟨rfl, rfl, rfl⟩ -
  rw [show iniP 1 ⟨1, 3⟩ = true by decide +kernel]
  refine ⟨Nat.le_of_ble_eq_true rfl, ?_⟩
  repeat' ((fail_if_success with_reducible refine Stop.mk ?_); (conv => whnf); with_reducible first | refine br_t ?_ | refine br_f ?_ | refine br_nn ?_ | refine br_ns ?_ | refine br_not ?_ | refine br_d (fun h => ?_) (fun h => ?_) | refine br_e (fun h => ?_) (fun h => ?_) | refine br_n (fun h => ?_) (fun h => ?_) | refine drw (by kernel_rfl) ?_ | refine chk (by kernel_rfl) ?_ | refine stop ?_)
  all_goals refine Stop.mk ?_
  refine call_fn [] (einit_fn _ ⟨1, 0⟩ 1 (in64_of (by decide))) rfl trivial (by decide) ?_
  rintro sv H' G' ⟨rfl, rfl, rfl⟩ -
  rw [show iniP 1 ⟨1, 0⟩ = true by decide +kernel]
  refine ⟨Nat.le_of_ble_eq_true rfl, ?_⟩
  repeat' ((fail_if_success with_reducible refine Stop.mk ?_); (conv => whnf); with_reducible first | refine br_t ?_ | refine br_f ?_ | refine br_nn ?_ | refine br_ns ?_ | refine br_not ?_ | refine br_d (fun h => ?_) (fun h => ?_) | refine br_e (fun h => ?_) (fun h => ?_) | refine br_n (fun h => ?_) (fun h => ?_) | refine drw (by kernel_rfl) ?_ | refine chk (by kernel_rfl) ?_ | refine stop ?_)
  all_goals refine Stop.mk ?_
  refine call_fn [] (einit_fn _ ⟨0, 0⟩ 1 (in64_of (by decide))) rfl trivial (by decide) ?_
  rintro sv H' G' ⟨rfl, rfl, rfl⟩ -
  rw [show iniP 1 ⟨0, 0⟩ = false by decide +kernel]
  refine ⟨Nat.le_of_ble_eq_true rfl, ?_⟩
  repeat' ((fail_if_success with_reducible refine Stop.mk ?_); (conv => whnf); with_reducible first | refine br_t ?_ | refine br_f ?_ | refine br_nn ?_ | refine br_ns ?_ | refine br_not ?_ | refine br_d (fun h => ?_) (fun h => ?_) | refine br_e (fun h => ?_) (fun h => ?_) | refine br_n (fun h => ?_) (fun h => ?_) | refine drw (by kernel_rfl) ?_ | refine chk (by kernel_rfl) ?_ | refine stop ?_)
  all_goals refine Stop.mk ?_
  refine call_fn [] (einit_fn _ ⟨0, 3⟩ 1 (in64_of (by decide))) rfl trivial (by decide) ?_
  rintro sv H' G' ⟨rfl, rfl, rfl⟩ -
  rw [show iniP 1 ⟨0, 3⟩ = false by decide +kernel]
  refine ⟨Nat.le_of_ble_eq_true rfl, ?_⟩
  repeat' ((fail_if_success with_reducible refine Stop.mk ?_); (conv => whnf); with_reducible first | refine br_t ?_ | refine br_f ?_ | refine br_nn ?_ | refine br_ns ?_ | refine br_not ?_ | refine br_d (fun h => ?_) (fun h => ?_) | refine br_e (fun h => ?_) (fun h => ?_) | refine br_n (fun h => ?_) (fun h => ?_) | refine drw (by kernel_rfl) ?_ | refine chk (by kernel_rfl) ?_ | refine stop ?_)
  all_goals refine Stop.mk ?_
  refine call_fn [] (einit_fn _ ⟨1, 1⟩ 1 (in64_of (by decide))) rfl trivial (by decide) ?_
  rintro sv H' G' ⟨rfl, rfl, rfl⟩ -
  rw [show iniP 1 ⟨1, 1⟩ = false by decide +kernel]
  refine ⟨Nat.le_of_ble_eq_true rfl, ?_⟩
  repeat' ((fail_if_success with_reducible refine Stop.mk ?_); (conv => whnf); with_reducible first | refine br_t ?_ | refine br_f ?_ | refine br_nn ?_ | refine br_ns ?_ | refine br_not ?_ | refine br_d (fun h => ?_) (fun h => ?_) | refine br_e (fun h => ?_) (fun h => ?_) | refine br_n (fun h => ?_) (fun h => ?_) | refine drw (by kernel_rfl) ?_ | refine chk (by kernel_rfl) ?_ | refine stop ?_)
  all_goals refine Stop.mk ?_
  all_goals try (exfalso; first | exact h rfl | exact h (by decide) | omega)
  refine call_fn [] (edgeValid_fn _ none 0 [] 1 1 1 1 (Kd.S.none_ _ _) (by decide) (by decide)) rfl trivial (by decide) ?_
  rintro sv H' G' ⟨rfl, rfl, rfl⟩ -
  rw [show eInv 1 1 1 1 [] = 14 by decide +kernel]
  refine ⟨Nat.le_of_ble_eq_true rfl, ?_⟩
  repeat' ((fail_if_success with_reducible refine Stop.mk ?_); (conv => whnf); with_reducible first | refine br_t ?_ | refine br_f ?_ | refine br_nn ?_ | refine br_ns ?_ | refine br_not ?_ | refine br_d (fun h => ?_) (fun h => ?_) | refine br_e (fun h => ?_) (fun h => ?_) | refine br_n (fun h => ?_) (fun h => ?_) | refine drw (by kernel_rfl) ?_ | refine chk (by kernel_rfl) ?_ | refine stop ?_)
  all_goals refine Stop.mk ?_
  all_goals try (exfalso; first | exact h rfl | exact h (by decide) | omega)
  refine call_fz 6 rfl (by simp [Value.oneCell']) (enters_of Try.func9 rfl rfl) fun Ae ce Ge hge hse => ?_
  (conv => whnf)
  refine call_lit 7 1 rfl rfl rfl (by decide) (enters_of Try.func9 rfl rfl) ?_
  (conv => whnf)
  refine call_fz 7 rfl (by simp [Value.oneCell']) (enters_of Try.func9 rfl rfl) fun Af cf Gf hgf hsf => ?_
  (conv => whnf)
  have hrow := (prs_of [⟨1, 0⟩, ⟨0, 0⟩] hse rfl rfl (prs_in _ (by decide))).to hgf
  refine call_fn [] (edgeValid_fn _ Af cf [[⟨1, 0⟩, ⟨0, 0⟩]] 1 2 1 1 (Kd.S.of hsf rfl rfl ⟨[[.slice Ae 2 ce]], ⟨⟨Ae, ce, rfl, hrow⟩, trivial⟩, rfl⟩) (by decide) (by decide)) rfl trivial (by decide) ?_
  rintro sv H' G' ⟨rfl, rfl, rfl⟩ -
  rw [show eInv 1 2 1 1 [[⟨1, 0⟩, ⟨0, 0⟩]] = 13 by decide +kernel]
  refine ⟨Nat.le_of_ble_eq_true rfl, ?_⟩
  repeat' ((fail_if_success with_reducible refine Stop.mk ?_); (conv => whnf); with_reducible first | refine br_t ?_ | refine br_f ?_ | refine br_nn ?_ | refine br_ns ?_ | refine br_not ?_ | refine br_d (fun h => ?_) (fun h => ?_) | refine br_e (fun h => ?_) (fun h => ?_) | refine br_n (fun h => ?_) (fun h => ?_) | refine drw (by kernel_rfl) ?_ | refine chk (by kernel_rfl) ?_ | refine stop ?_)
  all_goals refine Stop.mk ?_
  all_goals try (exfalso; first | exact h rfl | exact h (by decide) | omega)
  exact fin_id hE 0 rfl rfl rfl rfl ⟨rfl, rfl⟩
end Go.Proofs.Ytglelcgllodhoaa.Cu
