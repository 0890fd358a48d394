/- Opcodes: names. -/
import Derived.Test.YtlckmihmegnajaaDoorSXg
import Derived.Test.YtlckmihmegnajaaDoorProg
import Derived.Laws.Strings
namespace Go.Proofs.YtlckmihmegnajaaDoor.Cu
open Go Go.SX
set_option maxRecDepth 100000
set_option linter.unusedVariables false
set_option linter.unusedSimpArgs false
theorem follows : Tryd.prog.follows .mixedOrders = true := by kernel_rfl
theorem bdec {b : Bool} {P : Prop} [Decidable P] (h : b = true ↔ P) : b = decide P := by
  cases b
  · exact (decide_eq_false (fun hp => by have := h.2 hp; simp at this)).symm
  · exact (decide_eq_true (h.1 rfl)).symm
/-! ### locations -/
/-! ### opcodes -/
def known (op : Int) : Prop := 1 ≤ op ∧ op ≤ 18
def uD (op : Int) : Prop := 1 ≤ op ∧ op ≤ 16
def uA (op : Int) : Prop := 2 ≤ op ∧ op ≤ 17
def uB (op : Int) : Prop := 5 ≤ op ∧ op ≤ 16
instance (op : Int) : Decidable (known op) := inferInstanceAs (Decidable (_ ∧ _))
instance (op : Int) : Decidable (uD op) := inferInstanceAs (Decidable (_ ∧ _))
instance (op : Int) : Decidable (uA op) := inferInstanceAs (Decidable (_ ∧ _))
instance (op : Int) : Decidable (uB op) := inferInstanceAs (Decidable (_ ∧ _))
theorem known_fn (G : Gh) (op : Int) : Ct Tryd.prog 19 [.v (.int .i64 op)] [] G fun sv H' G' => sv = .v (.bool (decide (known op))) ∧ H' = [] ∧ G' = G := by
  refine fn_of follows [] Tryd.func19 rfl rfl fun E hE => ?_
  repeat' ((fail_if_success with_reducible refine Stop.mk ?_); (conv => whnf); with_reducible first | refine br_t ?_ | refine br_f ?_ | refine br_nn ?_ | refine br_ns ?_ | refine br_not ?_ | refine br_d (fun h => ?_) (fun h => ?_) | refine br_e (fun h => ?_) (fun h => ?_) | refine br_n (fun h => ?_) (fun h => ?_) | refine drw (by kernel_rfl) ?_ | refine chk (by kernel_rfl) ?_ | refine stop ?_)
  all_goals refine Stop.mk ?_
  all_goals refine fin_all ⟨congrArg (fun b => SV.v (.bool b)) ?_, rfl, rfl⟩
  all_goals
    refine bdec ?_
    simp only [decide_eq_true_iff, beq_iff_eq, bne_iff_ne, ne_eq, Bool.false_eq_true, false_iff, true_iff, known, uD, uA, uB] at *
    omega
/-- The names, as the package's variable holds them. -/
def nmB : List (List UInt8) := [[], [99, 111, 110, 115, 116], [99, 111, 112, 121], [110, 101, 103], [110, 111, 116], [97, 100, 100], [115, 117, 98], [109, 117, 108], [100, 105, 118], [114, 101, 109], [97, 110, 100], [111, 114], [120, 111, 114], [115, 104, 108], [115, 104, 114], [101, 113], [108, 101, 115, 115], [101, 109, 105, 116], [109, 111, 118, 101]]
def strV (l : List UInt8) : Value := .string ⟨l.toArray⟩
def nmV : List Value := nmB.map strV
theorem name_fn (G : Gh) (op : Int) (hN : Gat G ⟨0, 0, none⟩ nmV) : Ct Tryd.prog 12 [.v (.int .i64 op)] [] G fun sv H' G' => sv = .v (if known op then nmV.getD op.toNat (strV []) else strV []) ∧ H' = [] ∧ G' = G := by
  refine fn_of follows [] Tryd.func12 rfl rfl fun E hE => ?_
  repeat' ((fail_if_success with_reducible refine Stop.mk ?_); (conv => whnf); with_reducible first | refine br_t ?_ | refine br_f ?_ | refine br_nn ?_ | refine br_ns ?_ | refine br_not ?_ | refine br_d (fun h => ?_) (fun h => ?_) | refine br_e (fun h => ?_) (fun h => ?_) | refine br_n (fun h => ?_) (fun h => ?_) | refine drw (by kernel_rfl) ?_ | refine chk (by kernel_rfl) ?_ | refine stop ?_)
  all_goals refine Stop.mk ?_
  refine call_fn [] (known_fn _ op) rfl trivial (by decide) ?_
  rintro sv H' G' ⟨rfl, rfl, rfl⟩ -
  refine ⟨Nat.le_of_ble_eq_true rfl, ?_⟩
  repeat' ((fail_if_success with_reducible refine Stop.mk ?_); (conv => whnf); with_reducible first | refine br_t ?_ | refine br_f ?_ | refine br_nn ?_ | refine br_ns ?_ | refine br_not ?_ | refine br_d (fun h => ?_) (fun h => ?_) | refine br_e (fun h => ?_) (fun h => ?_) | refine br_n (fun h => ?_) (fun h => ?_) | refine drw (by kernel_rfl) ?_ | refine chk (by kernel_rfl) ?_ | refine stop ?_)
  all_goals refine Stop.mk ?_
  · have hk : known op := by assumption
    have hk2 : 1 ≤ op ∧ op ≤ 18 := hk
    refine ⟨⟨by omega, by omega⟩, ?_⟩
    repeat' ((fail_if_success with_reducible refine Stop.mk ?_); (conv => whnf); with_reducible first | refine br_t ?_ | refine br_f ?_ | refine br_nn ?_ | refine br_ns ?_ | refine br_not ?_ | refine br_d (fun h => ?_) (fun h => ?_) | refine br_e (fun h => ?_) (fun h => ?_) | refine br_n (fun h => ?_) (fun h => ?_) | refine drw (by kernel_rfl) ?_ | refine chk (by kernel_rfl) ?_ | refine stop ?_)
    all_goals refine Stop.mk ?_
    have hx : nmV[op.toNat]? = some (nmV.getD op.toNat (strV [])) := by
      rw [List.getD_eq_getElem?_getD, List.getElem?_eq_getElem (by show op.toNat < 19; omega)]; rfl
    refine ⟨_, by have := hN op.toNat _ hx; simpa using this, ?_⟩
    repeat' ((fail_if_success with_reducible refine Stop.mk ?_); (conv => whnf); with_reducible first | refine br_t ?_ | refine br_f ?_ | refine br_nn ?_ | refine br_ns ?_ | refine br_not ?_ | refine br_d (fun h => ?_) (fun h => ?_) | refine br_e (fun h => ?_) (fun h => ?_) | refine br_n (fun h => ?_) (fun h => ?_) | refine drw (by kernel_rfl) ?_ | refine chk (by kernel_rfl) ?_ | refine stop ?_)
    all_goals refine Stop.mk ?_
    exact fin_id hE 0 rfl rfl rfl rfl ⟨by rw [if_pos hk, List.getD_eq_getElem?_getD], rfl, rfl⟩
  · exact fin_id hE 0 rfl rfl rfl rfl ⟨by rw [if_neg (by assumption)]; rfl, rfl, rfl⟩
/-- The opcode of a name. -/
def findL (l : List UInt8) : Int := (((List.range 19).find? fun k => decide (k ≠ 0 ∧ nmB[k]? = some l)).getD 0 : Nat)
theorem findL_none (l : List UInt8) (h : ∀ x ∈ nmB.drop 1, ¬ x = l) : findL l = 0 := by
  unfold findL
  rw [List.find?_eq_none.2 ?_]
  · rfl
  · intro k hk
    have hk2 := List.mem_range.1 hk
    simp only [decide_eq_true_eq]
    rintro ⟨h1, h2⟩
    cases k with
    | zero => exact h1 rfl
    | succ k => exact h l (List.mem_of_getElem? (i := k) (by rw [List.getElem?_drop, Nat.add_comm]; exact h2)) rfl
set_option maxHeartbeats 8000000 in
theorem find_fn (G : Gh) (b : ByteArray) (hN : Gat G ⟨0, 0, none⟩ nmV) : Ct Tryd.prog 14 [.v (.string b)] [] G fun sv H' G' => sv = .v (.int .i64 (findL b.toList)) ∧ H' = [] ∧ G' = G := by
  refine fn_of follows [] Tryd.func14 rfl rfl fun E hE => ?_
  repeat' ((fail_if_success with_reducible refine Stop.mk ?_); (conv => whnf); with_reducible first | refine br_t ?_ | refine br_f ?_ | refine br_nn ?_ | refine br_ns ?_ | refine br_not ?_ | refine br_d (fun h => ?_) (fun h => ?_) | refine br_e (fun h => ?_) (fun h => ?_) | refine br_n (fun h => ?_) (fun h => ?_) | refine drw (by kernel_rfl) ?_ | refine chk (by kernel_rfl) ?_ | refine stop ?_)
  all_goals refine Stop.mk ?_
  refine ⟨nmV, rfl, hN, ?_⟩
  repeat' ((fail_if_success with_reducible refine Stop.mk ?_); (conv => whnf); with_reducible first | refine br_t ?_ | refine br_f ?_ | refine br_nn ?_ | refine br_ns ?_ | refine br_not ?_ | refine br_d (fun h => ?_) (fun h => ?_) | refine br_e (fun h => ?_) (fun h => ?_) | refine br_n (fun h => ?_) (fun h => ?_) | refine drw (by kernel_rfl) ?_ | refine chk (by kernel_rfl) ?_ | refine stop ?_)
  all_goals refine Stop.mk ?_
  refine loop_unroll follows [] 20 ?_
  repeat' ((fail_if_success with_reducible refine Stop.mk ?_); (conv => whnf); first | with_reducible refine br_t ?_ | with_reducible refine br_f ?_ | with_reducible refine br_nn ?_ | with_reducible refine br_ns ?_ | with_reducible refine br_not ?_ | refine br_tt (by rfl) ?_ | refine br_ff (by rfl) ?_ | ((with_reducible refine br_d (fun h => ?_) (fun h => ?_)) <;> try (exfalso; omega)) | ((with_reducible refine br_e (fun h => ?_) (fun h => ?_)) <;> try (exfalso; omega)) | ((with_reducible refine br_n (fun h => ?_) (fun h => ?_)) <;> try (exfalso; omega)) | with_reducible refine drw (by kernel_rfl) ?_ | with_reducible refine chk (by kernel_rfl) ?_ | refine br_b (fun h => ?_) (fun h => ?_) | refine lit_ix (by rfl) (by rfl) ?_ | refine ldrow (by rfl) ?_ | refine ldrow1 ?_ | with_reducible refine stop ?_)
  all_goals refine Stop.mk ?_
  all_goals try
    refine call_fn [] (known_fn _ _) rfl trivial (by decide) ?_
    rintro sv H' G' ⟨rfl, rfl, rfl⟩ -
    refine ⟨Nat.le_of_ble_eq_true rfl, ?_⟩
    first
      | rw [decide_eq_true (show known _ by decide)]
      | rw [decide_eq_false (show ¬ known _ by decide)]
    repeat' ((fail_if_success with_reducible refine Stop.mk ?_); (conv => whnf); first | with_reducible refine br_t ?_ | with_reducible refine br_f ?_ | with_reducible refine br_nn ?_ | with_reducible refine br_ns ?_ | with_reducible refine br_not ?_ | refine br_tt (by rfl) ?_ | refine br_ff (by rfl) ?_ | ((with_reducible refine br_d (fun h => ?_) (fun h => ?_)) <;> try (exfalso; omega)) | ((with_reducible refine br_e (fun h => ?_) (fun h => ?_)) <;> try (exfalso; omega)) | ((with_reducible refine br_n (fun h => ?_) (fun h => ?_)) <;> try (exfalso; omega)) | with_reducible refine drw (by kernel_rfl) ?_ | with_reducible refine chk (by kernel_rfl) ?_ | refine br_b (fun h => ?_) (fun h => ?_) | refine lit_ix (by rfl) (by rfl) ?_ | refine ldrow (by rfl) ?_ | refine ldrow1 ?_ | with_reducible refine stop ?_)
    all_goals refine Stop.mk ?_
  all_goals try
    (exfalso
     have e2 := eq_of_beq h
     have e1 : ({ data := #[] } : ByteArray).toList = b.toList := eq_of_beq (by assumption)
     rw [← e1] at e2
     exact absurd e2 (by decide +kernel))
  all_goals refine fin_id hE 0 rfl rfl rfl rfl ⟨congrArg (fun e => SV.v (.int .i64 e)) ?_, rfl, rfl⟩
  all_goals try
    (have e1 := eq_of_beq h
     rw [← e1]
     decide +kernel)
  all_goals try
    (have e1 : ({ data := #[] } : ByteArray).toList = b.toList := eq_of_beq (by assumption)
     rw [← e1]
     decide +kernel)
  simp only [beq_eq_false_iff_ne, ne_eq, ByteArray.toList_eq] at *
  generalize b.data.toList = l at *
  show (0 : Int) = findL l
  symm
  refine findL_none l fun x hx => ?_
  simp only [nmB, List.drop_succ_cons, List.drop_zero, List.mem_cons, List.not_mem_nil, or_false] at hx
  rcases hx with rfl | rfl | rfl | rfl | rfl | rfl | rfl | rfl | rfl | rfl | rfl | rfl | rfl | rfl | rfl | rfl | rfl | rfl
  all_goals assumption
end Go.Proofs.YtlckmihmegnajaaDoor.Cu
