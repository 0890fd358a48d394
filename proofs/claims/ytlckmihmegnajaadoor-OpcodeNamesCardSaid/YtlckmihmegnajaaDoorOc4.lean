/- Opcodes: the laws of the names and of the reference. -/
import Derived.Test.YtlckmihmegnajaaDoorOc3
import Derived.Test.YtlckmihmegnajaaDoorSXP
namespace Go.Proofs.YtlckmihmegnajaaDoor.Cu
open Go Go.SX
set_option maxRecDepth 100000
set_option linter.unusedVariables false
set_option linter.unusedSimpArgs false
theorem usesImm_fn (G : Gh) (op : Int) : Ct Tryd.prog 11 [.v (.int .i64 op)] [] G fun sv H' G' => sv = .v (.bool (decide (op = 1))) ∧ H' = [] ∧ G' = G := by
  refine fn_of follows [] Tryd.func11 rfl rfl fun E hE => ?_
  repeat' ((fail_if_success with_reducible refine Stop.mk ?_); (conv => whnf); with_reducible first | refine br_t ?_ | refine br_f ?_ | refine br_nn ?_ | refine br_ns ?_ | refine br_not ?_ | refine br_d (fun h => ?_) (fun h => ?_) | refine br_e (fun h => ?_) (fun h => ?_) | refine br_n (fun h => ?_) (fun h => ?_) | refine drw_fast (by kernel_rfl) ?_ | refine chk (by kernel_rfl) ?_ | refine stop ?_)
  all_goals refine Stop.mk ?_
  all_goals refine fin_all ⟨congrArg (fun b => SV.v (.bool b)) ?_, rfl, rfl⟩
  all_goals
    refine bdec ?_
    simp only [decide_eq_true_iff, beq_iff_eq, bne_iff_ne, ne_eq, Bool.false_eq_true, false_iff, true_iff, known, uD, uA, uB] at *
/-- An opcode is found by its name. -/
theorem findL_name {op : Int} (h : ¬ nameL op = []) : findL (nameL op) = op := by
  unfold nameL at h ⊢
  split at h
  · rename_i hk
    rw [if_pos hk]
    have h2 : 1 ≤ op ∧ op ≤ 18 := hk
    rw [findL_nm op.toNat (by omega) (by omega)]
    omega
  · exact absurd rfl h
theorem nameL_find {l : List UInt8} (h : ¬ findL l = 0) : nameL (findL l) = l := by
  unfold findL at h ⊢
  cases hf : (List.range 19).find? fun k => decide (k ≠ 0 ∧ nmB[k]? = some l) with
  | none => rw [hf] at h; exact absurd rfl h
  | some k =>
    have h1 := List.find?_some hf
    have h2 := List.mem_range.1 (List.mem_of_find?_eq_some hf)
    simp only [decide_eq_true_eq] at h1
    show nameL (k : Int) = l
    unfold nameL
    rw [if_pos (by show 1 ≤ (k : Int) ∧ (k : Int) ≤ 18; omega), Int.toNat_natCast, List.getD_eq_getElem?_getD, h1.2]
    rfl
theorem nameL_inj {a b : Int} (h : nameL a = nameL b) (hn : ¬ nameL a = []) : a = b := by
  rw [← findL_name hn, h]; rw [h] at hn; exact findL_name hn
theorem bl_list {l m : List UInt8} : (({ data := l.toArray } : ByteArray).toList == ({ data := m.toArray } : ByteArray).toList) = decide (l = m) := by
  simp only [ByteArray.toList_eq]
  refine bdec ?_
  simp
set_option maxHeartbeats 8000000 in
theorem namesLaw_fn (G : Gh) (op other : Int) (b : ByteArray) (hN : Gat G ⟨0, 0, none⟩ nmV) : Ct Tryd.prog 4 [.v (.int .i64 op), .v (.int .i64 other), .v (.string b)] [] G fun sv H' G' => sv = .v (.bool true) ∧ H' = [] := by
  have p1 : ¬ nameL op = [] → findL (nameL op) = op := findL_name
  have p2 : nameL op = nameL other → ¬ nameL op = [] → op = other := nameL_inj
  have p3 : ¬ findL b.toList = 0 → nameL (findL b.toList) = b.toList := nameL_find
  refine fn_of follows [] Tryd.func4 rfl rfl fun E hE => ?_
  repeat' ((fail_if_success with_reducible refine Stop.mk ?_); (conv => whnf); with_reducible first | refine br_t ?_ | refine br_f ?_ | refine br_nn ?_ | refine br_ns ?_ | refine br_not ?_ | refine br_d (fun h => ?_) (fun h => ?_) | refine br_e (fun h => ?_) (fun h => ?_) | refine br_n (fun h => ?_) (fun h => ?_) | refine drw_fast (by kernel_rfl) ?_ | refine chk (by kernel_rfl) ?_ | refine stop ?_)
  all_goals refine Stop.mk ?_
  refine call_fn [] (awake05_fn _ hN) rfl trivial (by decide) ?_
  rintro sv H' G' ⟨rfl, rfl, rfl⟩ -
  refine ⟨Nat.le_of_ble_eq_true rfl, ?_⟩
  repeat' ((fail_if_success with_reducible refine Stop.mk ?_); (conv => whnf); with_reducible first | refine br_t ?_ | refine br_f ?_ | refine br_nn ?_ | refine br_ns ?_ | refine br_not ?_ | refine br_d (fun h => ?_) (fun h => ?_) | refine br_e (fun h => ?_) (fun h => ?_) | refine br_n (fun h => ?_) (fun h => ?_) | refine br_b (fun h => ?_) (fun h => ?_) | refine drw_fast (by kernel_rfl) ?_ | refine chk (by kernel_rfl) ?_ | refine stop ?_)
  all_goals refine Stop.mk ?_
  ·
    refine call_fn [] (awake05_fn _ hN) rfl trivial (by decide) ?_
    rintro sv H' G' ⟨rfl, rfl, rfl⟩ -
    refine ⟨Nat.le_of_ble_eq_true rfl, ?_⟩
    repeat' ((fail_if_success with_reducible refine Stop.mk ?_); (conv => whnf); with_reducible first | refine br_t ?_ | refine br_f ?_ | refine br_nn ?_ | refine br_ns ?_ | refine br_not ?_ | refine br_d (fun h => ?_) (fun h => ?_) | refine br_e (fun h => ?_) (fun h => ?_) | refine br_n (fun h => ?_) (fun h => ?_) | refine drw_fast (by kernel_rfl) ?_ | refine chk (by kernel_rfl) ?_ | refine stop ?_)
    all_goals refine Stop.mk ?_
    exact fin_id hE 0 rfl rfl rfl rfl ⟨rfl, rfl⟩
  ·
    refine call_fn [] (nameE_fn _ op hN) rfl trivial (by decide) ?_
    rintro sv H' G' ⟨rfl, rfl, rfl⟩ -
    refine ⟨Nat.le_of_ble_eq_true rfl, ?_⟩
    repeat' ((fail_if_success with_reducible refine Stop.mk ?_); (conv => whnf); with_reducible first | refine br_t ?_ | refine br_f ?_ | refine br_nn ?_ | refine br_ns ?_ | refine br_not ?_ | refine br_d (fun h => ?_) (fun h => ?_) | refine br_e (fun h => ?_) (fun h => ?_) | refine br_n (fun h => ?_) (fun h => ?_) | refine drw_fast (by kernel_rfl) ?_ | refine chk (by kernel_rfl) ?_ | refine stop ?_)
    all_goals refine Stop.mk ?_
    refine call_fn [] (nameE_fn _ other hN) rfl trivial (by decide) ?_
    rintro sv H' G' ⟨rfl, rfl, rfl⟩ -
    refine ⟨Nat.le_of_ble_eq_true rfl, ?_⟩
    repeat' ((fail_if_success with_reducible refine Stop.mk ?_); (conv => whnf); with_reducible first | refine br_t ?_ | refine br_f ?_ | refine br_nn ?_ | refine br_ns ?_ | refine br_not ?_ | refine br_d (fun h => ?_) (fun h => ?_) | refine br_e (fun h => ?_) (fun h => ?_) | refine br_n (fun h => ?_) (fun h => ?_) | refine br_b (fun h => ?_) (fun h => ?_) | refine drw_fast (by kernel_rfl) ?_ | refine chk (by kernel_rfl) ?_ | refine stop ?_)
    all_goals refine Stop.mk ?_
    case refine_2.refine_1.refine_1.refine_2.refine_2 =>
      have q : (({ data := (nameL op).toArray } : ByteArray).toList == ({ data := #[] } : ByteArray).toList) = true := by assumption
      exact absurd (q.symm.trans h) (by decide)
    case refine_2.refine_2 =>
      have q1 : ¬ nameL op = [] := by
        intro e; rw [e] at h; exact absurd h (by decide +kernel)
      clear h
      refine call_fn [] (find_fn _ ⟨(nameL op).toArray⟩ hN) rfl trivial (by decide) ?_
      rintro sv H' G' ⟨rfl, rfl, rfl⟩ -
      refine ⟨Nat.le_of_ble_eq_true rfl, ?_⟩
      rw [ByteArray.toList_mk, p1 q1]
      repeat' ((fail_if_success with_reducible refine Stop.mk ?_); (conv => whnf); with_reducible first | refine br_t ?_ | refine br_f ?_ | refine br_nn ?_ | refine br_ns ?_ | refine br_not ?_ | refine br_d (fun h => ?_) (fun h => ?_) | refine br_e (fun h => ?_) (fun h => ?_) | refine br_n (fun h => ?_) (fun h => ?_) | refine br_b (fun h => ?_) (fun h => ?_) | refine drw_fast (by kernel_rfl) ?_ | refine chk (by kernel_rfl) ?_ | refine stop ?_)
      all_goals refine Stop.mk ?_
      all_goals try (exfalso; omega)
      case refine_1.refine_1.refine_2.refine_2 =>
        have q : (({ data := (nameL op).toArray } : ByteArray).toList == ({ data := (nameL other).toArray } : ByteArray).toList) = true := by assumption
        rw [bl_list] at q
        exact absurd (p2 (of_decide_eq_true q) q1) (by assumption)
      all_goals
        refine call_fn [] (find_fn _ b hN) rfl trivial (by decide) ?_
        rintro sv H' G' ⟨rfl, rfl, rfl⟩ -
        refine ⟨Nat.le_of_ble_eq_true rfl, ?_⟩
        repeat' ((fail_if_success with_reducible refine Stop.mk ?_); (conv => whnf); with_reducible first | refine br_t ?_ | refine br_f ?_ | refine br_nn ?_ | refine br_ns ?_ | refine br_not ?_ | refine br_d (fun h => ?_) (fun h => ?_) | refine br_e (fun h => ?_) (fun h => ?_) | refine br_n (fun h => ?_) (fun h => ?_) | refine br_b (fun h => ?_) (fun h => ?_) | refine drw_fast (by kernel_rfl) ?_ | refine chk (by kernel_rfl) ?_ | refine stop ?_)
        all_goals refine Stop.mk ?_
      all_goals try exact fin_id hE 0 rfl rfl rfl rfl ⟨rfl, rfl⟩
      all_goals
        have q3 := p3 (by assumption)
        refine call_fn [] (nameE_fn _ (findL b.toList) hN) rfl trivial (by decide) ?_
        rintro sv H' G' ⟨rfl, rfl, rfl⟩ -
        refine ⟨Nat.le_of_ble_eq_true rfl, ?_⟩
        rw [q3]
        repeat' ((fail_if_success with_reducible refine Stop.mk ?_); (conv => whnf); with_reducible first | refine br_t ?_ | refine br_f ?_ | refine br_nn ?_ | refine br_ns ?_ | refine br_not ?_ | refine br_d (fun h => ?_) (fun h => ?_) | refine br_e (fun h => ?_) (fun h => ?_) | refine br_n (fun h => ?_) (fun h => ?_) | refine drw_fast (by kernel_rfl) ?_ | refine chk (by kernel_rfl) ?_ | refine stop ?_)
        all_goals refine Stop.mk ?_
        refine fin_id hE 0 rfl rfl rfl rfl ⟨congrArg (fun e => SV.v (.bool e)) ?_, rfl⟩
        rw [ByteArray.toList_mk]
        exact beq_self_eq_true _
    all_goals
      refine call_fn [] (find_fn _ b hN) rfl trivial (by decide) ?_
      rintro sv H' G' ⟨rfl, rfl, rfl⟩ -
      refine ⟨Nat.le_of_ble_eq_true rfl, ?_⟩
      repeat' ((fail_if_success with_reducible refine Stop.mk ?_); (conv => whnf); with_reducible first | refine br_t ?_ | refine br_f ?_ | refine br_nn ?_ | refine br_ns ?_ | refine br_not ?_ | refine br_d (fun h => ?_) (fun h => ?_) | refine br_e (fun h => ?_) (fun h => ?_) | refine br_n (fun h => ?_) (fun h => ?_) | refine br_b (fun h => ?_) (fun h => ?_) | refine drw_fast (by kernel_rfl) ?_ | refine chk (by kernel_rfl) ?_ | refine stop ?_)
      all_goals refine Stop.mk ?_
    all_goals try exact fin_id hE 0 rfl rfl rfl rfl ⟨rfl, rfl⟩
    all_goals
      have q3 := p3 (by assumption)
      refine call_fn [] (nameE_fn _ (findL b.toList) hN) rfl trivial (by decide) ?_
      rintro sv H' G' ⟨rfl, rfl, rfl⟩ -
      refine ⟨Nat.le_of_ble_eq_true rfl, ?_⟩
      rw [q3]
      repeat' ((fail_if_success with_reducible refine Stop.mk ?_); (conv => whnf); with_reducible first | refine br_t ?_ | refine br_f ?_ | refine br_nn ?_ | refine br_ns ?_ | refine br_not ?_ | refine br_d (fun h => ?_) (fun h => ?_) | refine br_e (fun h => ?_) (fun h => ?_) | refine br_n (fun h => ?_) (fun h => ?_) | refine drw_fast (by kernel_rfl) ?_ | refine chk (by kernel_rfl) ?_ | refine stop ?_)
      all_goals refine Stop.mk ?_
      refine fin_id hE 0 rfl rfl rfl rfl ⟨congrArg (fun e => SV.v (.bool e)) ?_, rfl⟩
      rw [ByteArray.toList_mk]
      exact beq_self_eq_true _
set_option maxHeartbeats 8000000 in
theorem refLaw_fn (G : Gh) (op : Int) (b : ByteArray) (hN : Gat G ⟨0, 0, none⟩ nmV) : Ct Tryd.prog 3 [.v (.int .i64 op), .v (.string b)] [] G fun sv H' G' => sv = .v (.bool true) ∧ H' = [] := by
  obtain ⟨d, a, b', i, k, e1, e2, e3, e4, e5, hc⟩ := shape6 op
  have hin1 : decide (op ≥ 1 ∧ op ≤ 18) = k := e5
  have hs : decide (known op ∧ op ≠ 18) = (k && decide (op ≠ 18)) := by rw [← e5]; by_cases h1 : known op <;> by_cases h2 : op = 18 <;> simp [h1, h2]
  have hm : decide (known op ∧ op ≠ 2) = (k && decide (op ≠ 2)) := by rw [← e5]; by_cases h1 : known op <;> by_cases h2 : op = 2 <;> simp [h1, h2]
  refine fn_of follows [] Tryd.func3 rfl rfl fun E hE => ?_
  repeat' ((fail_if_success with_reducible refine Stop.mk ?_); (conv => whnf); with_reducible first | refine br_t ?_ | refine br_f ?_ | refine br_nn ?_ | refine br_ns ?_ | refine br_not ?_ | refine br_d (fun h => ?_) (fun h => ?_) | refine br_e (fun h => ?_) (fun h => ?_) | refine br_n (fun h => ?_) (fun h => ?_) | refine drw_fast (by kernel_rfl) ?_ | refine chk (by kernel_rfl) ?_ | refine stop ?_)
  all_goals refine Stop.mk ?_
  refine call_fn [] (awake05_fn _ hN) rfl trivial (by decide) ?_
  rintro sv H' G' ⟨rfl, rfl, rfl⟩ -
  refine ⟨Nat.le_of_ble_eq_true rfl, ?_⟩
  repeat' ((fail_if_success with_reducible refine Stop.mk ?_); (conv => whnf); with_reducible first | refine br_t ?_ | refine br_f ?_ | refine br_nn ?_ | refine br_ns ?_ | refine br_not ?_ | refine br_d (fun h => ?_) (fun h => ?_) | refine br_e (fun h => ?_) (fun h => ?_) | refine br_n (fun h => ?_) (fun h => ?_) | refine br_b (fun h => ?_) (fun h => ?_) | refine drw_fast (by kernel_rfl) ?_ | refine chk (by kernel_rfl) ?_ | refine stop ?_)
  all_goals refine Stop.mk ?_
  ·
    refine call_fn [] (awake05_fn _ hN) rfl trivial (by decide) ?_
    rintro sv H' G' ⟨rfl, rfl, rfl⟩ -
    refine ⟨Nat.le_of_ble_eq_true rfl, ?_⟩
    repeat' ((fail_if_success with_reducible refine Stop.mk ?_); (conv => whnf); with_reducible first | refine br_t ?_ | refine br_f ?_ | refine br_nn ?_ | refine br_ns ?_ | refine br_not ?_ | refine br_d (fun h => ?_) (fun h => ?_) | refine br_e (fun h => ?_) (fun h => ?_) | refine br_n (fun h => ?_) (fun h => ?_) | refine drw_fast (by kernel_rfl) ?_ | refine chk (by kernel_rfl) ?_ | refine stop ?_)
    all_goals refine Stop.mk ?_
    exact fin_id hE 0 rfl rfl rfl rfl ⟨rfl, rfl⟩
  ·
    refine call_fn [] (of_fn _ op) rfl trivial (by decide) ?_
    rintro sv H' G' ⟨rfl, rfl, rfl⟩ -
    refine ⟨Nat.le_of_ble_eq_true rfl, ?_⟩
    rw [e1, e2, e3, e4, e5]
    repeat' ((fail_if_success with_reducible refine Stop.mk ?_); (conv => whnf); with_reducible first | refine br_t ?_ | refine br_f ?_ | refine br_nn ?_ | refine br_ns ?_ | refine br_not ?_ | refine br_d (fun h => ?_) (fun h => ?_) | refine br_e (fun h => ?_) (fun h => ?_) | refine br_n (fun h => ?_) (fun h => ?_) | refine drw_fast (by kernel_rfl) ?_ | refine chk (by kernel_rfl) ?_ | refine stop ?_)
    all_goals refine Stop.mk ?_
    refine call_fn [] (usesD_fn _ op) rfl trivial (by decide) ?_
    rintro sv H' G' ⟨rfl, rfl, rfl⟩ -
    refine ⟨Nat.le_of_ble_eq_true rfl, ?_⟩
    rw [e1]
    repeat' ((fail_if_success with_reducible refine Stop.mk ?_); (conv => whnf); with_reducible first | refine br_t ?_ | refine br_f ?_ | refine br_nn ?_ | refine br_ns ?_ | refine br_not ?_ | refine br_d (fun h => ?_) (fun h => ?_) | refine br_e (fun h => ?_) (fun h => ?_) | refine br_n (fun h => ?_) (fun h => ?_) | refine drw_fast (by kernel_rfl) ?_ | refine chk (by kernel_rfl) ?_ | refine stop ?_)
    all_goals refine Stop.mk ?_
    refine call_fn [] (usesA_fn _ op) rfl trivial (by decide) ?_
    rintro sv H' G' ⟨rfl, rfl, rfl⟩ -
    refine ⟨Nat.le_of_ble_eq_true rfl, ?_⟩
    rw [e2]
    repeat' ((fail_if_success with_reducible refine Stop.mk ?_); (conv => whnf); with_reducible first | refine br_t ?_ | refine br_f ?_ | refine br_nn ?_ | refine br_ns ?_ | refine br_not ?_ | refine br_d (fun h => ?_) (fun h => ?_) | refine br_e (fun h => ?_) (fun h => ?_) | refine br_n (fun h => ?_) (fun h => ?_) | refine drw_fast (by kernel_rfl) ?_ | refine chk (by kernel_rfl) ?_ | refine stop ?_)
    all_goals refine Stop.mk ?_
    refine call_fn [] (usesB_fn _ op) rfl trivial (by decide) ?_
    rintro sv H' G' ⟨rfl, rfl, rfl⟩ -
    refine ⟨Nat.le_of_ble_eq_true rfl, ?_⟩
    rw [e3]
    repeat' ((fail_if_success with_reducible refine Stop.mk ?_); (conv => whnf); with_reducible first | refine br_t ?_ | refine br_f ?_ | refine br_nn ?_ | refine br_ns ?_ | refine br_not ?_ | refine br_d (fun h => ?_) (fun h => ?_) | refine br_e (fun h => ?_) (fun h => ?_) | refine br_n (fun h => ?_) (fun h => ?_) | refine drw_fast (by kernel_rfl) ?_ | refine chk (by kernel_rfl) ?_ | refine stop ?_)
    all_goals refine Stop.mk ?_
    refine call_fn [] (usesImm_fn _ op) rfl trivial (by decide) ?_
    rintro sv H' G' ⟨rfl, rfl, rfl⟩ -
    refine ⟨Nat.le_of_ble_eq_true rfl, ?_⟩
    rw [e4]
    repeat' ((fail_if_success with_reducible refine Stop.mk ?_); (conv => whnf); with_reducible first | refine br_t ?_ | refine br_f ?_ | refine br_nn ?_ | refine br_ns ?_ | refine br_not ?_ | refine br_d (fun h => ?_) (fun h => ?_) | refine br_e (fun h => ?_) (fun h => ?_) | refine br_n (fun h => ?_) (fun h => ?_) | refine br_b (fun h => ?_) (fun h => ?_) | refine drw_fast (by kernel_rfl) ?_ | refine chk (by kernel_rfl) ?_ | refine stop ?_)
    all_goals refine Stop.mk ?_
    all_goals try exact absurd rfl h
    case refine_2.refine_1.refine_1.refine_2 =>
      have hg : op ≥ 1 := by assumption
      have q : k = decide (op ≤ 18) := by rw [← hin1]; simp [hg]
      exact absurd (h.symm.trans (beq_iff_eq.2 q)) (by decide)
    case refine_2.refine_2.refine_1.refine_2 =>
      have hg : ¬ op ≥ 1 := by assumption
      have q : k = false := by rw [← hin1]; simp [hg]
      exact absurd (h.symm.trans (beq_iff_eq.2 q)) (by decide)
    all_goals
      refine call_fn [] (nameE_fn _ op hN) rfl trivial (by decide) ?_
      rintro sv H' G' ⟨rfl, rfl, rfl⟩ -
      refine ⟨Nat.le_of_ble_eq_true rfl, ?_⟩
      repeat' ((fail_if_success with_reducible refine Stop.mk ?_); (conv => whnf); with_reducible first | refine br_t ?_ | refine br_f ?_ | refine br_nn ?_ | refine br_ns ?_ | refine br_not ?_ | refine br_d (fun h => ?_) (fun h => ?_) | refine br_e (fun h => ?_) (fun h => ?_) | refine br_n (fun h => ?_) (fun h => ?_) | refine drw_fast (by kernel_rfl) ?_ | refine chk (by kernel_rfl) ?_ | refine stop ?_)
      all_goals refine Stop.mk ?_
      refine call_fn [] (rname_fn _ op) rfl trivial (by decide) ?_
      rintro sv H' G' ⟨rfl, rfl⟩ hg1
      refine ⟨Nat.le_of_ble_eq_true rfl, ?_⟩
      replace hN := hN.to hg1
      repeat' ((fail_if_success with_reducible refine Stop.mk ?_); (conv => whnf); with_reducible first | refine br_t ?_ | refine br_f ?_ | refine br_nn ?_ | refine br_ns ?_ | refine br_not ?_ | refine br_d (fun h => ?_) (fun h => ?_) | refine br_e (fun h => ?_) (fun h => ?_) | refine br_n (fun h => ?_) (fun h => ?_) | refine br_b (fun h => ?_) (fun h => ?_) | refine drw_fast (by kernel_rfl) ?_ | refine chk (by kernel_rfl) ?_ | refine stop ?_)
      all_goals refine Stop.mk ?_
    all_goals try exact absurd ((beq_self_eq_true _).symm.trans h) (by decide)
    all_goals
      refine call_fn [] (find_fn _ b hN) rfl trivial (by decide) ?_
      rintro sv H' G' ⟨rfl, rfl, rfl⟩ -
      refine ⟨Nat.le_of_ble_eq_true rfl, ?_⟩
      repeat' ((fail_if_success with_reducible refine Stop.mk ?_); (conv => whnf); with_reducible first | refine br_t ?_ | refine br_f ?_ | refine br_nn ?_ | refine br_ns ?_ | refine br_not ?_ | refine br_d (fun h => ?_) (fun h => ?_) | refine br_e (fun h => ?_) (fun h => ?_) | refine br_n (fun h => ?_) (fun h => ?_) | refine drw_fast (by kernel_rfl) ?_ | refine chk (by kernel_rfl) ?_ | refine stop ?_)
      all_goals refine Stop.mk ?_
      refine call_fn [] (rfind_fn _ b) rfl trivial (by decide) ?_
      rintro sv H' G' ⟨rfl, rfl⟩ hg2
      refine ⟨Nat.le_of_ble_eq_true rfl, ?_⟩
      replace hN := hN.to hg2
      repeat' ((fail_if_success with_reducible refine Stop.mk ?_); (conv => whnf); with_reducible first | refine br_t ?_ | refine br_f ?_ | refine br_nn ?_ | refine br_ns ?_ | refine br_not ?_ | refine br_d (fun h => ?_) (fun h => ?_) | refine br_e (fun h => ?_) (fun h => ?_) | refine br_n (fun h => ?_) (fun h => ?_) | refine br_b (fun h => ?_) (fun h => ?_) | refine drw_fast (by kernel_rfl) ?_ | refine chk (by kernel_rfl) ?_ | refine stop ?_)
      all_goals refine Stop.mk ?_
    all_goals try exact absurd rfl h
    all_goals
      refine call_fn [] (source_fn _ op) rfl trivial (by decide) ?_
      rintro sv H' G' ⟨rfl, rfl, rfl⟩ -
      refine ⟨Nat.le_of_ble_eq_true rfl, ?_⟩
      rw [hs]
      repeat' ((fail_if_success with_reducible refine Stop.mk ?_); (conv => whnf); with_reducible first | refine br_t ?_ | refine br_f ?_ | refine br_nn ?_ | refine br_ns ?_ | refine br_not ?_ | refine br_d (fun h => ?_) (fun h => ?_) | refine br_e (fun h => ?_) (fun h => ?_) | refine br_n (fun h => ?_) (fun h => ?_) | refine br_b (fun h => ?_) (fun h => ?_) | refine drw_fast (by kernel_rfl) ?_ | refine chk (by kernel_rfl) ?_ | refine stop ?_)
      all_goals refine Stop.mk ?_
    all_goals try
      exfalso
      rw [← hin1] at h
      clear hN hg1 hg2 hc hs hm
      by_cases q1 : op ≥ 1 <;> by_cases q2 : op ≤ 18 <;> by_cases q3 : op = 18 <;> simp_all <;> omega
      done
    all_goals
      refine call_fn [] (machine_fn _ op) rfl trivial (by decide) ?_
      rintro sv H' G' ⟨rfl, rfl, rfl⟩ -
      refine ⟨Nat.le_of_ble_eq_true rfl, ?_⟩
      rw [hm]
      repeat' ((fail_if_success with_reducible refine Stop.mk ?_); (conv => whnf); with_reducible first | refine br_t ?_ | refine br_f ?_ | refine br_nn ?_ | refine br_ns ?_ | refine br_not ?_ | refine br_d (fun h => ?_) (fun h => ?_) | refine br_e (fun h => ?_) (fun h => ?_) | refine br_n (fun h => ?_) (fun h => ?_) | refine br_b (fun h => ?_) (fun h => ?_) | refine drw_fast (by kernel_rfl) ?_ | refine chk (by kernel_rfl) ?_ | refine stop ?_)
      all_goals refine Stop.mk ?_
    all_goals refine fin_id hE 0 rfl rfl rfl rfl ⟨congrArg (fun e => SV.v (.bool e)) ?_, rfl⟩
    all_goals
      rw [← hin1]
      clear hN hg1 hg2 hc hs hm
      by_cases q1 : op ≥ 1 <;> by_cases q2 : op ≤ 18 <;> by_cases q3 : op = 2 <;> simp_all <;> omega
end Go.Proofs.YtlckmihmegnajaaDoor.Cu
