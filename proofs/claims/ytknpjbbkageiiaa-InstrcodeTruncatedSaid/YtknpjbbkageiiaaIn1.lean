/- Instructions: what they are, opcodes, locations. -/
import Derived.Test.YtknpjbbkageiiaaCuP
import Derived.Test.YtknpjbbkageiiaaVd
namespace Go.Proofs.Ytknpjbbkageiiaa.Cu
open Go Go.SX Go.Proofs.Ytknpjbbkageiiaa.VT
set_option maxRecDepth 100000
set_option linter.unusedVariables false
set_option linter.unusedSimpArgs false

structure Ins where
  op : Int
  d : Int
  a : Int
  b : Int
  imm : Int
structure Mac where
  op : Int
  d : Int
  a : Int
  b : Int
  imm : Int
  dst : Int
  src : Int
structure Trm where
  kind : Int
  a : Int
  to_ : Int
  els : Int
def Ins.l (i : Ins) : List Int := [i.op, i.d, i.a, i.b, i.imm]
def Mac.l (i : Mac) : List Int := [i.op, i.d, i.a, i.b, i.imm, i.dst, i.src]
def Trm.l (t : Trm) : List Int := [t.kind, t.a, t.to_, t.els]
def Ins.sv (i : Ins) : SV := .agg [.v (.int .i64 i.op), .v (.int .i64 i.d), .v (.int .i64 i.a), .v (.int .i64 i.b), .v (.int .i64 i.imm)]
def Mac.sv (i : Mac) : SV := .agg [.v (.int .i64 i.op), .v (.int .i64 i.d), .v (.int .i64 i.a), .v (.int .i64 i.b), .v (.int .i64 i.imm), .v (.int .i64 i.dst), .v (.int .i64 i.src)]
def Trm.sv (t : Trm) : SV := .agg [.v (.int .i64 t.kind), .v (.int .i64 t.a), .v (.int .i64 t.to_), .v (.int .i64 t.els)]
def in64 (x : Int) : Prop := -9223372036854775808 ≤ x ∧ x ≤ 9223372036854775807
def Ins.ok (i : Ins) : Prop := in64 i.op ∧ in64 i.d ∧ in64 i.a ∧ in64 i.b ∧ in64 i.imm
def Mac.ok (i : Mac) : Prop := in64 i.op ∧ in64 i.d ∧ in64 i.a ∧ in64 i.b ∧ in64 i.imm ∧ in64 i.dst ∧ in64 i.src
def Trm.ok (t : Trm) : Prop := in64 t.kind ∧ in64 t.a ∧ in64 t.to_ ∧ in64 t.els

theorem bdec {b : Bool} {P : Prop} [Decidable P] (h : b = true ↔ P) : b = decide P := by
  cases b
  · exact (decide_eq_false (fun hp => by have := h.2 hp; simp at this)).symm
  · exact (decide_eq_true (h.1 rfl)).symm
/-! ### opcodes -/
def known (op : Int) : Prop := 1 ≤ op ∧ op ≤ 18
def uD (op : Int) : Prop := 1 ≤ op ∧ op ≤ 16
def uA (op : Int) : Prop := 2 ≤ op ∧ op ≤ 17
def uB (op : Int) : Prop := 5 ≤ op ∧ op ≤ 16
instance (op : Int) : Decidable (known op) := inferInstanceAs (Decidable (_ ∧ _))
instance (op : Int) : Decidable (uD op) := inferInstanceAs (Decidable (_ ∧ _))
instance (op : Int) : Decidable (uA op) := inferInstanceAs (Decidable (_ ∧ _))
instance (op : Int) : Decidable (uB op) := inferInstanceAs (Decidable (_ ∧ _))
theorem known_fn (G : Gh) (op : Int) : Ct Try.prog 96 [.v (.int .i64 op)] [] G fun sv H' G' => sv = .v (.bool (decide (known op))) ∧ H' = [] ∧ G' = G := by
  refine fn_of follows [] Try.func96 rfl rfl fun E hE => ?_
  repeat' ((fail_if_success with_reducible refine Stop.mk ?_); (conv => whnf); with_reducible first | refine br_t ?_ | refine br_f ?_ | refine br_nn ?_ | refine br_ns ?_ | refine br_not ?_ | refine br_d (fun h => ?_) (fun h => ?_) | refine br_e (fun h => ?_) (fun h => ?_) | refine br_n (fun h => ?_) (fun h => ?_) | refine drw (by kernel_rfl) ?_ | refine chk (by kernel_rfl) ?_ | refine stop ?_)
  all_goals refine Stop.mk ?_
  all_goals refine fin_all ⟨congrArg (fun b => SV.v (.bool b)) ?_, rfl, rfl⟩
  all_goals
    refine bdec ?_
    simp only [decide_eq_true_iff, beq_iff_eq, bne_iff_ne, ne_eq, Bool.false_eq_true, false_iff, true_iff, known, uD, uA, uB] at *
    omega
/-- What Of returns. -/
def shp (d a b i k : Bool) : SV := .tup [.agg [.v (.bool d), .v (.bool a), .v (.bool b), .v (.bool i)], .v (.bool k)]
theorem of_fn (G : Gh) (op : Int) : Ct Try.prog 56 [.v (.int .i64 op)] [] G fun sv H' G' => sv = shp (decide (uD op)) (decide (uA op)) (decide (uB op)) (decide (op = 1)) (decide (known op)) ∧ H' = [] ∧ G' = G := by
  refine fn_of follows [] Try.func56 rfl rfl fun E hE => ?_
  repeat' ((fail_if_success with_reducible refine Stop.mk ?_); (conv => whnf); with_reducible first | refine br_t ?_ | refine br_f ?_ | refine br_nn ?_ | refine br_ns ?_ | refine br_not ?_ | refine br_d (fun h => ?_) (fun h => ?_) | refine br_e (fun h => ?_) (fun h => ?_) | refine br_n (fun h => ?_) (fun h => ?_) | refine drw (by kernel_rfl) ?_ | refine chk (by kernel_rfl) ?_ | refine stop ?_)
  all_goals refine Stop.mk ?_
  refine call_fn [] (known_fn _ op) rfl trivial (by decide) ?_
  rintro sv H' G' ⟨rfl, rfl, rfl⟩ -
  refine ⟨Nat.le_of_ble_eq_true rfl, ?_⟩
  repeat' ((fail_if_success with_reducible refine Stop.mk ?_); (conv => whnf); with_reducible first | refine br_t ?_ | refine br_f ?_ | refine br_nn ?_ | refine br_ns ?_ | refine br_not ?_ | refine br_d (fun h => ?_) (fun h => ?_) | refine br_e (fun h => ?_) (fun h => ?_) | refine br_n (fun h => ?_) (fun h => ?_) | refine drw (by kernel_rfl) ?_ | refine chk (by kernel_rfl) ?_ | refine stop ?_)
  all_goals refine Stop.mk ?_
  all_goals refine fin_id hE 0 rfl rfl rfl rfl ⟨?_, rfl, rfl⟩
  all_goals
    unfold shp
    have key : ∀ {a b c d e a' b' c' d' e' : Bool}, a = a' → b = b' → c = c' → d = d' → e = e' → SV.tup [.agg [.v (.bool a), .v (.bool b), .v (.bool c), .v (.bool d)], .v (.bool e)] = .tup [.agg [.v (.bool a'), .v (.bool b'), .v (.bool c'), .v (.bool d')], .v (.bool e')] := by
      rintro _ _ _ _ _ _ _ _ _ _ rfl rfl rfl rfl rfl; rfl
    refine key ?_ ?_ ?_ ?_ ?_
  all_goals
    refine bdec ?_
    simp only [decide_eq_true_iff, beq_iff_eq, bne_iff_ne, ne_eq, Bool.false_eq_true, false_iff, true_iff, known, uD, uA, uB] at *
    omega
theorem source_fn (G : Gh) (op : Int) : Ct Try.prog 54 [.v (.int .i64 op)] [] G fun sv H' G' => sv = .v (.bool (decide (known op ∧ op ≠ 18))) ∧ H' = [] ∧ G' = G := by
  refine fn_of follows [] Try.func54 rfl rfl fun E hE => ?_
  repeat' ((fail_if_success with_reducible refine Stop.mk ?_); (conv => whnf); with_reducible first | refine br_t ?_ | refine br_f ?_ | refine br_nn ?_ | refine br_ns ?_ | refine br_not ?_ | refine br_d (fun h => ?_) (fun h => ?_) | refine br_e (fun h => ?_) (fun h => ?_) | refine br_n (fun h => ?_) (fun h => ?_) | refine drw (by kernel_rfl) ?_ | refine chk (by kernel_rfl) ?_ | refine stop ?_)
  all_goals refine Stop.mk ?_
  refine call_fn [] (known_fn _ op) rfl trivial (by decide) ?_
  rintro sv H' G' ⟨rfl, rfl, rfl⟩ -
  refine ⟨Nat.le_of_ble_eq_true rfl, ?_⟩
  repeat' ((fail_if_success with_reducible refine Stop.mk ?_); (conv => whnf); with_reducible first | refine br_t ?_ | refine br_f ?_ | refine br_nn ?_ | refine br_ns ?_ | refine br_not ?_ | refine br_d (fun h => ?_) (fun h => ?_) | refine br_e (fun h => ?_) (fun h => ?_) | refine br_n (fun h => ?_) (fun h => ?_) | refine drw (by kernel_rfl) ?_ | refine chk (by kernel_rfl) ?_ | refine stop ?_)
  all_goals refine Stop.mk ?_
  all_goals refine fin_all ⟨congrArg (fun b => SV.v (.bool b)) ?_, rfl, rfl⟩
  all_goals
    refine bdec ?_
    simp only [decide_eq_true_iff, beq_iff_eq, bne_iff_ne, ne_eq, Bool.false_eq_true, false_iff, true_iff, known, uD, uA, uB] at *
    omega
theorem machine_fn (G : Gh) (op : Int) : Ct Try.prog 60 [.v (.int .i64 op)] [] G fun sv H' G' => sv = .v (.bool (decide (known op ∧ op ≠ 2))) ∧ H' = [] ∧ G' = G := by
  refine fn_of follows [] Try.func60 rfl rfl fun E hE => ?_
  repeat' ((fail_if_success with_reducible refine Stop.mk ?_); (conv => whnf); with_reducible first | refine br_t ?_ | refine br_f ?_ | refine br_nn ?_ | refine br_ns ?_ | refine br_not ?_ | refine br_d (fun h => ?_) (fun h => ?_) | refine br_e (fun h => ?_) (fun h => ?_) | refine br_n (fun h => ?_) (fun h => ?_) | refine drw (by kernel_rfl) ?_ | refine chk (by kernel_rfl) ?_ | refine stop ?_)
  all_goals refine Stop.mk ?_
  refine call_fn [] (known_fn _ op) rfl trivial (by decide) ?_
  rintro sv H' G' ⟨rfl, rfl, rfl⟩ -
  refine ⟨Nat.le_of_ble_eq_true rfl, ?_⟩
  repeat' ((fail_if_success with_reducible refine Stop.mk ?_); (conv => whnf); with_reducible first | refine br_t ?_ | refine br_f ?_ | refine br_nn ?_ | refine br_ns ?_ | refine br_not ?_ | refine br_d (fun h => ?_) (fun h => ?_) | refine br_e (fun h => ?_) (fun h => ?_) | refine br_n (fun h => ?_) (fun h => ?_) | refine drw (by kernel_rfl) ?_ | refine chk (by kernel_rfl) ?_ | refine stop ?_)
  all_goals refine Stop.mk ?_
  all_goals refine fin_all ⟨congrArg (fun b => SV.v (.bool b)) ?_, rfl, rfl⟩
  all_goals
    refine bdec ?_
    simp only [decide_eq_true_iff, beq_iff_eq, bne_iff_ne, ne_eq, Bool.false_eq_true, false_iff, true_iff, known, uD, uA, uB] at *
    omega
theorem usesD_fn (G : Gh) (op : Int) : Ct Try.prog 66 [.v (.int .i64 op)] [] G fun sv H' G' => sv = .v (.bool (decide (uD op))) ∧ H' = [] ∧ G' = G := by
  refine fn_of follows [] Try.func66 rfl rfl fun E hE => ?_
  repeat' ((fail_if_success with_reducible refine Stop.mk ?_); (conv => whnf); with_reducible first | refine br_t ?_ | refine br_f ?_ | refine br_nn ?_ | refine br_ns ?_ | refine br_not ?_ | refine br_d (fun h => ?_) (fun h => ?_) | refine br_e (fun h => ?_) (fun h => ?_) | refine br_n (fun h => ?_) (fun h => ?_) | refine drw (by kernel_rfl) ?_ | refine chk (by kernel_rfl) ?_ | refine stop ?_)
  all_goals refine Stop.mk ?_
  all_goals refine fin_all ⟨congrArg (fun b => SV.v (.bool b)) ?_, rfl, rfl⟩
  all_goals
    refine bdec ?_
    simp only [decide_eq_true_iff, beq_iff_eq, bne_iff_ne, ne_eq, Bool.false_eq_true, false_iff, true_iff, known, uD, uA, uB] at *
    omega
theorem usesA_fn (G : Gh) (op : Int) : Ct Try.prog 68 [.v (.int .i64 op)] [] G fun sv H' G' => sv = .v (.bool (decide (uA op))) ∧ H' = [] ∧ G' = G := by
  refine fn_of follows [] Try.func68 rfl rfl fun E hE => ?_
  repeat' ((fail_if_success with_reducible refine Stop.mk ?_); (conv => whnf); with_reducible first | refine br_t ?_ | refine br_f ?_ | refine br_nn ?_ | refine br_ns ?_ | refine br_not ?_ | refine br_d (fun h => ?_) (fun h => ?_) | refine br_e (fun h => ?_) (fun h => ?_) | refine br_n (fun h => ?_) (fun h => ?_) | refine drw (by kernel_rfl) ?_ | refine chk (by kernel_rfl) ?_ | refine stop ?_)
  all_goals refine Stop.mk ?_
  all_goals refine fin_all ⟨congrArg (fun b => SV.v (.bool b)) ?_, rfl, rfl⟩
  all_goals
    refine bdec ?_
    simp only [decide_eq_true_iff, beq_iff_eq, bne_iff_ne, ne_eq, Bool.false_eq_true, false_iff, true_iff, known, uD, uA, uB] at *
    omega
theorem usesB_fn (G : Gh) (op : Int) : Ct Try.prog 69 [.v (.int .i64 op)] [] G fun sv H' G' => sv = .v (.bool (decide (uB op))) ∧ H' = [] ∧ G' = G := by
  refine fn_of follows [] Try.func69 rfl rfl fun E hE => ?_
  repeat' ((fail_if_success with_reducible refine Stop.mk ?_); (conv => whnf); with_reducible first | refine br_t ?_ | refine br_f ?_ | refine br_nn ?_ | refine br_ns ?_ | refine br_not ?_ | refine br_d (fun h => ?_) (fun h => ?_) | refine br_e (fun h => ?_) (fun h => ?_) | refine br_n (fun h => ?_) (fun h => ?_) | refine drw (by kernel_rfl) ?_ | refine chk (by kernel_rfl) ?_ | refine stop ?_)
  all_goals refine Stop.mk ?_
  all_goals refine fin_all ⟨congrArg (fun b => SV.v (.bool b)) ?_, rfl, rfl⟩
  all_goals
    refine bdec ?_
    simp only [decide_eq_true_iff, beq_iff_eq, bne_iff_ne, ne_eq, Bool.false_eq_true, false_iff, true_iff, known, uD, uA, uB] at *
    omega

/-! ### locations -/
def isSlot (l : Int) : Prop := l.tmod 2 = 1
instance (l : Int) : Decidable (isSlot l) := inferInstanceAs (Decidable (_ = _))
def inRange (l regs slots : Int) : Prop := 0 ≤ l ∧ ((l % 2 = 1 ∧ l / 2 < slots) ∨ (l % 2 ≠ 1 ∧ l / 2 < regs))
instance (l regs slots : Int) : Decidable (inRange l regs slots) := inferInstanceAs (Decidable (_ ∧ _))
theorem isSlot_nonneg {l : Int} (h : 0 ≤ l) : isSlot l ↔ l % 2 = 1 := by unfold isSlot; rw [Int.tmod_eq_emod_of_nonneg h]
theorem isSlot_fn (G : Gh) (l : Int) : Ct Try.prog 62 [.v (.int .i64 l)] [] G fun sv H' G' => sv = .v (.bool (decide (isSlot l))) ∧ H' = [] ∧ G' = G := by
  refine fn_of follows [] Try.func62 rfl rfl fun E hE => ?_
  repeat' ((fail_if_success with_reducible refine Stop.mk ?_); (conv => whnf); with_reducible first | refine br_t ?_ | refine br_f ?_ | refine br_nn ?_ | refine br_ns ?_ | refine br_not ?_ | refine br_d (fun h => ?_) (fun h => ?_) | refine br_e (fun h => ?_) (fun h => ?_) | refine br_n (fun h => ?_) (fun h => ?_) | refine drw (by kernel_rfl) ?_ | refine chk (by kernel_rfl) ?_ | refine stop ?_)
  all_goals refine Stop.mk ?_
  refine fin_all ⟨congrArg (fun b => SV.v (.bool b)) ?_, rfl, rfl⟩
  refine bdec ?_
  rw [beq_iff_eq]; exact Iff.rfl
theorem index_fn (G : Gh) (l : Int) (h : 0 ≤ l ∧ l ≤ 9223372036854775807) : Ct Try.prog 109 [.v (.int .i64 l)] [] G fun sv H' G' => sv = .v (.int .i64 (l / 2)) ∧ H' = [] ∧ G' = G := by
  refine fn_of follows [] Try.func109 rfl rfl fun E hE => ?_
  repeat' ((fail_if_success with_reducible refine Stop.mk ?_); (conv => whnf); with_reducible first | refine br_t ?_ | refine br_f ?_ | refine br_nn ?_ | refine br_ns ?_ | refine br_not ?_ | refine br_d (fun h => ?_) (fun h => ?_) | refine br_e (fun h => ?_) (fun h => ?_) | refine br_n (fun h => ?_) (fun h => ?_) | refine drw (by kernel_rfl) ?_ | refine chk (by kernel_rfl) ?_ | refine stop ?_)
  all_goals refine Stop.mk ?_
  refine fin_all ⟨svi ?_, rfl, rfl⟩
  rw [Int.tdiv_eq_ediv_of_nonneg (by omega), i64_in (by omega) (by omega)]
theorem inRange_fn (G : Gh) (l regs slots : Int) (h : in64 l) : Ct Try.prog 100 [.v (.int .i64 l), .v (.int .i64 regs), .v (.int .i64 slots)] [] G fun sv H' G' => sv = .v (.bool (decide (inRange l regs slots))) ∧ H' = [] ∧ G' = G := by
  obtain ⟨h1, h2⟩ := h
  refine fn_of follows [] Try.func100 rfl rfl fun E hE => ?_
  repeat' ((fail_if_success with_reducible refine Stop.mk ?_); (conv => whnf); with_reducible first | refine br_t ?_ | refine br_f ?_ | refine br_nn ?_ | refine br_ns ?_ | refine br_not ?_ | refine br_d (fun h => ?_) (fun h => ?_) | refine br_e (fun h => ?_) (fun h => ?_) | refine br_n (fun h => ?_) (fun h => ?_) | refine drw (by kernel_rfl) ?_ | refine chk (by kernel_rfl) ?_ | refine stop ?_)
  all_goals refine Stop.mk ?_
  refine call_fn [] (isSlot_fn _ l) rfl trivial (by decide) ?_
  rintro sv H' G' ⟨rfl, rfl, rfl⟩ -
  refine ⟨Nat.le_of_ble_eq_true rfl, ?_⟩
  repeat' ((fail_if_success with_reducible refine Stop.mk ?_); (conv => whnf); with_reducible first | refine br_t ?_ | refine br_f ?_ | refine br_nn ?_ | refine br_ns ?_ | refine br_not ?_ | refine br_d (fun h => ?_) (fun h => ?_) | refine br_e (fun h => ?_) (fun h => ?_) | refine br_n (fun h => ?_) (fun h => ?_) | refine drw (by kernel_rfl) ?_ | refine chk (by kernel_rfl) ?_ | refine stop ?_)
  all_goals refine Stop.mk ?_
  all_goals try
    refine call_fn [] (index_fn _ l (by omega)) rfl trivial (by decide) ?_
    rintro sv H' G' ⟨rfl, rfl, rfl⟩ -
    refine ⟨Nat.le_of_ble_eq_true rfl, ?_⟩
    repeat' ((fail_if_success with_reducible refine Stop.mk ?_); (conv => whnf); with_reducible first | refine br_t ?_ | refine br_f ?_ | refine br_nn ?_ | refine br_ns ?_ | refine br_not ?_ | refine br_d (fun h => ?_) (fun h => ?_) | refine br_e (fun h => ?_) (fun h => ?_) | refine br_n (fun h => ?_) (fun h => ?_) | refine drw (by kernel_rfl) ?_ | refine chk (by kernel_rfl) ?_ | refine stop ?_)
    all_goals refine Stop.mk ?_
  all_goals refine fin_all ⟨congrArg (fun b => SV.v (.bool b)) ?_, rfl, rfl⟩
  all_goals
    refine bdec ?_
    by_cases h0 : 0 ≤ l
    · have h3 := isSlot_nonneg h0
      first
        | (have e1 : l.tmod 2 = l % 2 := Int.tmod_eq_emod_of_nonneg h0
           have e2 : IntKind.i64.wrap (l.tdiv 2) = l / 2 := by rw [Int.tdiv_eq_ediv_of_nonneg h0, i64_in (by omega) (by omega)]
           simp only [decide_eq_true_iff, beq_iff_eq, bne_iff_ne, ne_eq, Bool.false_eq_true, false_iff, true_iff, inRange, h3, e1, e2] at *
           omega)
    · simp only [decide_eq_true_iff, beq_iff_eq, bne_iff_ne, ne_eq, Bool.false_eq_true, false_iff, true_iff, inRange] at *
      omega
theorem rinRange_fn (G : Gh) (l regs slots : Int) (h : in64 l) : Ct Try.prog 70 [.v (.int .i64 l), .v (.int .i64 regs), .v (.int .i64 slots)] [] G fun sv H' G' => sv = .v (.bool (decide (inRange l regs slots))) ∧ H' = [] ∧ G' = G := by
  obtain ⟨h1, h2⟩ := h
  refine fn_of follows [] Try.func70 rfl rfl fun E hE => ?_
  repeat' ((fail_if_success with_reducible refine Stop.mk ?_); (conv => whnf); with_reducible first | refine br_t ?_ | refine br_f ?_ | refine br_nn ?_ | refine br_ns ?_ | refine br_not ?_ | refine br_d (fun h => ?_) (fun h => ?_) | refine br_e (fun h => ?_) (fun h => ?_) | refine br_n (fun h => ?_) (fun h => ?_) | refine drw (by kernel_rfl) ?_ | refine chk (by kernel_rfl) ?_ | refine stop ?_)
  all_goals refine Stop.mk ?_
  all_goals refine fin_all ⟨congrArg (fun b => SV.v (.bool b)) ?_, rfl, rfl⟩
  all_goals
    refine bdec ?_
    by_cases h0 : 0 ≤ l
    · have h3 := isSlot_nonneg h0
      first
        | (have e1 : l.tmod 2 = l % 2 := Int.tmod_eq_emod_of_nonneg h0
           have e2 : IntKind.i64.wrap (l.tdiv 2) = l / 2 := by rw [Int.tdiv_eq_ediv_of_nonneg h0, i64_in (by omega) (by omega)]
           simp only [decide_eq_true_iff, beq_iff_eq, bne_iff_ne, ne_eq, Bool.false_eq_true, false_iff, true_iff, inRange, h3, e1, e2] at *
           omega)
    · simp only [decide_eq_true_iff, beq_iff_eq, bne_iff_ne, ne_eq, Bool.false_eq_true, false_iff, true_iff, inRange] at *
      omega
end Go.Proofs.Ytknpjbbkageiiaa.Cu
