/- Instructions: what they are, opcodes, locations. -/
import Derived.Test.YtglelcgllodhoaaNux
namespace Go.Proofs.Ytglelcgllodhoaa.Cu
open Go Go.SX Go.Proofs.Ytglelcgllodhoaa.VT
set_option maxRecDepth 100000
set_option linter.unusedVariables false
set_option linter.unusedSimpArgs false

structure Ins where
  op : Int
  d : Int
  a : Int
  b : Int
  imm : Int
structure Mac where
  op : Int
  d : Int
  a : Int
  b : Int
  imm : Int
  dst : Int
  src : Int
structure Trm where
  kind : Int
  a : Int
  to_ : Int
  els : Int
def Ins.l (i : Ins) : List Int := [i.op, i.d, i.a, i.b, i.imm]
def Mac.l (i : Mac) : List Int := [i.op, i.d, i.a, i.b, i.imm, i.dst, i.src]
def Trm.l (t : Trm) : List Int := [t.kind, t.a, t.to_, t.els]
def Ins.sv (i : Ins) : SV := .agg [.v (.int .i64 i.op), .v (.int .i64 i.d), .v (.int .i64 i.a), .v (.int .i64 i.b), .v (.int .i64 i.imm)]
def Mac.sv (i : Mac) : SV := .agg [.v (.int .i64 i.op), .v (.int .i64 i.d), .v (.int .i64 i.a), .v (.int .i64 i.b), .v (.int .i64 i.imm), .v (.int .i64 i.dst), .v (.int .i64 i.src)]
def Trm.sv (t : Trm) : SV := .agg [.v (.int .i64 t.kind), .v (.int .i64 t.a), .v (.int .i64 t.to_), .v (.int .i64 t.els)]
def Ins.ok (i : Ins) : Prop := in64 i.op ∧ in64 i.d ∧ in64 i.a ∧ in64 i.b ∧ in64 i.imm
def Mac.ok (i : Mac) : Prop := in64 i.op ∧ in64 i.d ∧ in64 i.a ∧ in64 i.b ∧ in64 i.imm ∧ in64 i.dst ∧ in64 i.src
def Trm.ok (t : Trm) : Prop := in64 t.kind ∧ in64 t.a ∧ in64 t.to_ ∧ in64 t.els

/-! ### opcodes -/
def known (op : Int) : Prop := 1 ≤ op ∧ op ≤ 18
def uD (op : Int) : Prop := 1 ≤ op ∧ op ≤ 16
def uA (op : Int) : Prop := 2 ≤ op ∧ op ≤ 17
def uB (op : Int) : Prop := 5 ≤ op ∧ op ≤ 16
instance (op : Int) : Decidable (known op) := inferInstanceAs (Decidable (_ ∧ _))
instance (op : Int) : Decidable (uD op) := inferInstanceAs (Decidable (_ ∧ _))
instance (op : Int) : Decidable (uA op) := inferInstanceAs (Decidable (_ ∧ _))
instance (op : Int) : Decidable (uB op) := inferInstanceAs (Decidable (_ ∧ _))
theorem known_fn (G : Gh) (op : Int) : Ct Try.prog 44 [.v (.int .i64 op)] [] G fun sv H' G' => sv = .v (.bool (decide (known op))) ∧ H' = [] ∧ G' = G := by
  refine fn_of follows [] Try.func44 rfl rfl fun E hE => ?_
  repeat' ((fail_if_success with_reducible refine Stop.mk ?_); (conv => whnf); with_reducible first | refine br_t ?_ | refine br_f ?_ | refine br_nn ?_ | refine br_ns ?_ | refine br_not ?_ | refine br_d (fun h => ?_) (fun h => ?_) | refine br_e (fun h => ?_) (fun h => ?_) | refine br_n (fun h => ?_) (fun h => ?_) | refine drw (by kernel_rfl) ?_ | refine chk (by kernel_rfl) ?_ | refine stop ?_)
  all_goals refine Stop.mk ?_
  all_goals refine fin_all ⟨congrArg (fun b => SV.v (.bool b)) ?_, rfl, rfl⟩
  all_goals
    refine bdec ?_
    simp only [decide_eq_true_iff, beq_iff_eq, bne_iff_ne, ne_eq, Bool.false_eq_true, false_iff, true_iff, known, uD, uA, uB] at *
    omega
/-- What Of returns. -/
def shp (d a b i k : Bool) : SV := .tup [.agg [.v (.bool d), .v (.bool a), .v (.bool b), .v (.bool i)], .v (.bool k)]
theorem of_fn (G : Gh) (op : Int) : Ct Try.prog 25 [.v (.int .i64 op)] [] G fun sv H' G' => sv = shp (decide (uD op)) (decide (uA op)) (decide (uB op)) (decide (op = 1)) (decide (known op)) ∧ H' = [] ∧ G' = G := by
  refine fn_of follows [] Try.func25 rfl rfl fun E hE => ?_
  repeat' ((fail_if_success with_reducible refine Stop.mk ?_); (conv => whnf); with_reducible first | refine br_t ?_ | refine br_f ?_ | refine br_nn ?_ | refine br_ns ?_ | refine br_not ?_ | refine br_d (fun h => ?_) (fun h => ?_) | refine br_e (fun h => ?_) (fun h => ?_) | refine br_n (fun h => ?_) (fun h => ?_) | refine drw (by kernel_rfl) ?_ | refine chk (by kernel_rfl) ?_ | refine stop ?_)
  all_goals refine Stop.mk ?_
  refine call_fn [] (known_fn _ op) rfl trivial (by decide) ?_
  rintro sv H' G' ⟨rfl, rfl, rfl⟩ -
  refine ⟨Nat.le_of_ble_eq_true rfl, ?_⟩
  repeat' ((fail_if_success with_reducible refine Stop.mk ?_); (conv => whnf); with_reducible first | refine br_t ?_ | refine br_f ?_ | refine br_nn ?_ | refine br_ns ?_ | refine br_not ?_ | refine br_d (fun h => ?_) (fun h => ?_) | refine br_e (fun h => ?_) (fun h => ?_) | refine br_n (fun h => ?_) (fun h => ?_) | refine drw (by kernel_rfl) ?_ | refine chk (by kernel_rfl) ?_ | refine stop ?_)
  all_goals refine Stop.mk ?_
  all_goals refine fin_id hE 0 rfl rfl rfl rfl ⟨?_, rfl, rfl⟩
  all_goals
    unfold shp
    have key : ∀ {a b c d e a' b' c' d' e' : Bool}, a = a' → b = b' → c = c' → d = d' → e = e' → SV.tup [.agg [.v (.bool a), .v (.bool b), .v (.bool c), .v (.bool d)], .v (.bool e)] = .tup [.agg [.v (.bool a'), .v (.bool b'), .v (.bool c'), .v (.bool d')], .v (.bool e')] := by
      rintro _ _ _ _ _ _ _ _ _ _ rfl rfl rfl rfl rfl; rfl
    refine key ?_ ?_ ?_ ?_ ?_
  all_goals
    refine bdec ?_
    simp only [decide_eq_true_iff, beq_iff_eq, bne_iff_ne, ne_eq, Bool.false_eq_true, false_iff, true_iff, known, uD, uA, uB] at *
    omega
theorem source_fn (G : Gh) (op : Int) : Ct Try.prog 50 [.v (.int .i64 op)] [] G fun sv H' G' => sv = .v (.bool (decide (known op ∧ op ≠ 18))) ∧ H' = [] ∧ G' = G := by
  refine fn_of follows [] Try.func50 rfl rfl fun E hE => ?_
  repeat' ((fail_if_success with_reducible refine Stop.mk ?_); (conv => whnf); with_reducible first | refine br_t ?_ | refine br_f ?_ | refine br_nn ?_ | refine br_ns ?_ | refine br_not ?_ | refine br_d (fun h => ?_) (fun h => ?_) | refine br_e (fun h => ?_) (fun h => ?_) | refine br_n (fun h => ?_) (fun h => ?_) | refine drw (by kernel_rfl) ?_ | refine chk (by kernel_rfl) ?_ | refine stop ?_)
  all_goals refine Stop.mk ?_
  refine call_fn [] (known_fn _ op) rfl trivial (by decide) ?_
  rintro sv H' G' ⟨rfl, rfl, rfl⟩ -
  refine ⟨Nat.le_of_ble_eq_true rfl, ?_⟩
  repeat' ((fail_if_success with_reducible refine Stop.mk ?_); (conv => whnf); with_reducible first | refine br_t ?_ | refine br_f ?_ | refine br_nn ?_ | refine br_ns ?_ | refine br_not ?_ | refine br_d (fun h => ?_) (fun h => ?_) | refine br_e (fun h => ?_) (fun h => ?_) | refine br_n (fun h => ?_) (fun h => ?_) | refine drw (by kernel_rfl) ?_ | refine chk (by kernel_rfl) ?_ | refine stop ?_)
  all_goals refine Stop.mk ?_
  all_goals refine fin_all ⟨congrArg (fun b => SV.v (.bool b)) ?_, rfl, rfl⟩
  all_goals
    refine bdec ?_
    simp only [decide_eq_true_iff, beq_iff_eq, bne_iff_ne, ne_eq, Bool.false_eq_true, false_iff, true_iff, known, uD, uA, uB] at *
    omega
theorem usesD_fn (G : Gh) (op : Int) : Ct Try.prog 53 [.v (.int .i64 op)] [] G fun sv H' G' => sv = .v (.bool (decide (uD op))) ∧ H' = [] ∧ G' = G := by
  refine fn_of follows [] Try.func53 rfl rfl fun E hE => ?_
  repeat' ((fail_if_success with_reducible refine Stop.mk ?_); (conv => whnf); with_reducible first | refine br_t ?_ | refine br_f ?_ | refine br_nn ?_ | refine br_ns ?_ | refine br_not ?_ | refine br_d (fun h => ?_) (fun h => ?_) | refine br_e (fun h => ?_) (fun h => ?_) | refine br_n (fun h => ?_) (fun h => ?_) | refine drw (by kernel_rfl) ?_ | refine chk (by kernel_rfl) ?_ | refine stop ?_)
  all_goals refine Stop.mk ?_
  all_goals refine fin_all ⟨congrArg (fun b => SV.v (.bool b)) ?_, rfl, rfl⟩
  all_goals
    refine bdec ?_
    simp only [decide_eq_true_iff, beq_iff_eq, bne_iff_ne, ne_eq, Bool.false_eq_true, false_iff, true_iff, known, uD, uA, uB] at *
    omega
theorem usesA_fn (G : Gh) (op : Int) : Ct Try.prog 55 [.v (.int .i64 op)] [] G fun sv H' G' => sv = .v (.bool (decide (uA op))) ∧ H' = [] ∧ G' = G := by
  refine fn_of follows [] Try.func55 rfl rfl fun E hE => ?_
  repeat' ((fail_if_success with_reducible refine Stop.mk ?_); (conv => whnf); with_reducible first | refine br_t ?_ | refine br_f ?_ | refine br_nn ?_ | refine br_ns ?_ | refine br_not ?_ | refine br_d (fun h => ?_) (fun h => ?_) | refine br_e (fun h => ?_) (fun h => ?_) | refine br_n (fun h => ?_) (fun h => ?_) | refine drw (by kernel_rfl) ?_ | refine chk (by kernel_rfl) ?_ | refine stop ?_)
  all_goals refine Stop.mk ?_
  all_goals refine fin_all ⟨congrArg (fun b => SV.v (.bool b)) ?_, rfl, rfl⟩
  all_goals
    refine bdec ?_
    simp only [decide_eq_true_iff, beq_iff_eq, bne_iff_ne, ne_eq, Bool.false_eq_true, false_iff, true_iff, known, uD, uA, uB] at *
    omega
theorem usesB_fn (G : Gh) (op : Int) : Ct Try.prog 56 [.v (.int .i64 op)] [] G fun sv H' G' => sv = .v (.bool (decide (uB op))) ∧ H' = [] ∧ G' = G := by
  refine fn_of follows [] Try.func56 rfl rfl fun E hE => ?_
  repeat' ((fail_if_success with_reducible refine Stop.mk ?_); (conv => whnf); with_reducible first | refine br_t ?_ | refine br_f ?_ | refine br_nn ?_ | refine br_ns ?_ | refine br_not ?_ | refine br_d (fun h => ?_) (fun h => ?_) | refine br_e (fun h => ?_) (fun h => ?_) | refine br_n (fun h => ?_) (fun h => ?_) | refine drw (by kernel_rfl) ?_ | refine chk (by kernel_rfl) ?_ | refine stop ?_)
  all_goals refine Stop.mk ?_
  all_goals refine fin_all ⟨congrArg (fun b => SV.v (.bool b)) ?_, rfl, rfl⟩
  all_goals
    refine bdec ?_
    simp only [decide_eq_true_iff, beq_iff_eq, bne_iff_ne, ne_eq, Bool.false_eq_true, false_iff, true_iff, known, uD, uA, uB] at *
    omega

deriving instance DecidableEq for Ins
deriving instance DecidableEq for Mac
deriving instance DecidableEq for Trm
/-- The five shapes. -/
def shape5 (sD sA sB sI : Bool) : Prop := (sD = true ∧ sA = false ∧ sB = false ∧ sI = true) ∨ (sD = true ∧ sA = true ∧ sB = false ∧ sI = false) ∨ (sD = true ∧ sA = true ∧ sB = true ∧ sI = false) ∨
  (sD = false ∧ sA = true ∧ sB = false ∧ sI = false) ∨ (sD = false ∧ sA = false ∧ sB = false ∧ sI = false)
theorem shape_of (op : Int) : shape5 (decide (uD op)) (decide (uA op)) (decide (uB op)) (decide (op = 1)) := by
  have tt : ∀ {P : Prop} [Decidable P], P → decide P = true := fun h => decide_eq_true h
  have ff : ∀ {P : Prop} [Decidable P], ¬ P → decide P = false := fun h => decide_eq_false h
  by_cases h1 : op = 1
  · exact .inl ⟨tt (by unfold uD; omega), ff (by unfold uA; omega), ff (by unfold uB; omega), tt h1⟩
  by_cases h2 : 2 ≤ op ∧ op ≤ 4
  · exact .inr (.inl ⟨tt (by unfold uD; omega), tt (by unfold uA; omega), ff (by unfold uB; omega), ff h1⟩)
  by_cases h3 : 5 ≤ op ∧ op ≤ 16
  · exact .inr (.inr (.inl ⟨tt (by unfold uD; omega), tt (by unfold uA; omega), tt (by unfold uB; omega), ff h1⟩))
  by_cases h4 : op = 17
  · exact .inr (.inr (.inr (.inl ⟨ff (by unfold uD; omega), tt (by unfold uA; omega), ff (by unfold uB; omega), ff h1⟩)))
  · exact .inr (.inr (.inr (.inr ⟨ff (by unfold uD; omega), ff (by unfold uA; omega), ff (by unfold uB; omega), ff h1⟩)))
end Go.Proofs.Ytglelcgllodhoaa.Cu
