/- Instructions: what is written. -/
import Derived.Test.YtknpjbbkageiiaaIn1
namespace Go.Proofs.Ytknpjbbkageiiaa.Cu
open Go Go.SX Go.Proofs.Ytknpjbbkageiiaa.VT
set_option maxRecDepth 100000
set_option linter.unusedVariables false
set_option linter.unusedSimpArgs false

def pU (n : Int) : List Int := putB (IntKind.u64.wrap n).toNat
theorem pU_len (n : Int) : (pU n).length ≤ 10 := putB_len _
theorem pU_nat (n : Int) : 0 ≤ IntKind.u64.wrap n ∧ IntKind.u64.wrap n < 18446744073709551616 := by rw [IntKind.wrap_u64]; omega
theorem wU_fn (G : Gh) (n : Int) (xs : List Int) (hlen : xs.length ≤ 1000000) :
    Ct Try.prog 73 [.p 0 0, .v (.int .u64 (IntKind.u64.wrap n))] (wrH xs) G fun sv H' G' => sv = .tup [] ∧ H' = wrH (xs ++ pU n) := by
  have h := pU_nat n
  have := wuint_fn G (IntKind.u64.wrap n).toNat xs (by omega) hlen
  rw [Int.toNat_of_nonneg h.1] at this
  exact this
def fieldsB (sD sA sB sI : Bool) (d a b imm : Int) : List Int :=
  (if sD then pU d else []) ++ (if sA then pU a else []) ++ (if sB then pU b else []) ++ (if sI then putB (zig imm).toNat else [])
theorem fieldsB_len (sD sA sB sI : Bool) (d a b imm : Int) : (fieldsB sD sA sB sI d a b imm).length ≤ 40 := by
  have := pU_len d
  have := pU_len a
  have := pU_len b
  have := putB_len (zig imm).toNat
  unfold fieldsB
  simp only [List.length_append]
  (repeat' split) <;> (try simp only [List.length_nil]) <;> omega
/-- The five shapes. -/
def shape5 (sD sA sB sI : Bool) : Prop := (sD = true ∧ sA = false ∧ sB = false ∧ sI = true) ∨ (sD = true ∧ sA = true ∧ sB = false ∧ sI = false) ∨ (sD = true ∧ sA = true ∧ sB = true ∧ sI = false) ∨
  (sD = false ∧ sA = true ∧ sB = false ∧ sI = false) ∨ (sD = false ∧ sA = false ∧ sB = false ∧ sI = false)
theorem shape_of (op : Int) : shape5 (decide (uD op)) (decide (uA op)) (decide (uB op)) (decide (op = 1)) := by
  have tt : ∀ {P : Prop} [Decidable P], P → decide P = true := fun h => decide_eq_true h
  have ff : ∀ {P : Prop} [Decidable P], ¬ P → decide P = false := fun h => decide_eq_false h
  by_cases h1 : op = 1
  · exact .inl ⟨tt (by unfold uD; omega), ff (by unfold uA; omega), ff (by unfold uB; omega), tt h1⟩
  by_cases h2 : 2 ≤ op ∧ op ≤ 4
  · exact .inr (.inl ⟨tt (by unfold uD; omega), tt (by unfold uA; omega), ff (by unfold uB; omega), ff h1⟩)
  by_cases h3 : 5 ≤ op ∧ op ≤ 16
  · exact .inr (.inr (.inl ⟨tt (by unfold uD; omega), tt (by unfold uA; omega), tt (by unfold uB; omega), ff h1⟩))
  by_cases h4 : op = 17
  · exact .inr (.inr (.inr (.inl ⟨ff (by unfold uD; omega), tt (by unfold uA; omega), ff (by unfold uB; omega), ff h1⟩)))
  · exact .inr (.inr (.inr (.inr ⟨ff (by unfold uD; omega), ff (by unfold uA; omega), ff (by unfold uB; omega), ff h1⟩)))
set_option maxHeartbeats 8000000 in
theorem fields_fn (G : Gh) (sD sA sB sI : Bool) (d a b imm : Int) (xs : List Int) (hs : shape5 sD sA sB sI) (himm : in64 imm) (hlen : xs.length ≤ 900000) :
    Ct Try.prog 72 [.p 0 0, .agg [.v (.bool sD), .v (.bool sA), .v (.bool sB), .v (.bool sI)], .v (.int .i64 d), .v (.int .i64 a), .v (.int .i64 b), .v (.int .i64 imm)] (wrH xs) G fun sv H' G' =>
      sv = .tup [] ∧ H' = wrH (xs ++ fieldsB sD sA sB sI d a b imm) := by
  have hd := pU_len d
  have ha := pU_len a
  have hb := pU_len b
  obtain ⟨hi1, hi2⟩ := himm
  rcases hs with ⟨rfl, rfl, rfl, rfl⟩ | ⟨rfl, rfl, rfl, rfl⟩ | ⟨rfl, rfl, rfl, rfl⟩ | ⟨rfl, rfl, rfl, rfl⟩ | ⟨rfl, rfl, rfl, rfl⟩
  all_goals
    refine fn_of follows [] Try.func72 rfl rfl fun E hE => ?_
    repeat' ((fail_if_success with_reducible refine Stop.mk ?_); (conv => whnf); with_reducible first | refine br_t ?_ | refine br_f ?_ | refine br_nn ?_ | refine br_ns ?_ | refine br_not ?_ | refine br_d (fun h => ?_) (fun h => ?_) | refine br_e (fun h => ?_) (fun h => ?_) | refine br_n (fun h => ?_) (fun h => ?_) | refine drw (by kernel_rfl) ?_ | refine chk (by kernel_rfl) ?_ | refine stop ?_)
    all_goals refine Stop.mk ?_
    refine loop_unroll follows [] 5 ?_
    repeat' ((fail_if_success with_reducible refine Stop.mk ?_); (conv => whnf); first | with_reducible refine br_t ?_ | with_reducible refine br_f ?_ | with_reducible refine br_nn ?_ | with_reducible refine br_ns ?_ | with_reducible refine br_not ?_ | refine br_tt (by rfl) ?_ | refine br_ff (by rfl) ?_ | ((with_reducible refine br_d (fun h => ?_) (fun h => ?_)) <;> try (exfalso; omega)) | ((with_reducible refine br_e (fun h => ?_) (fun h => ?_)) <;> try (exfalso; omega)) | ((with_reducible refine br_n (fun h => ?_) (fun h => ?_)) <;> try (exfalso; omega)) | with_reducible refine drw (by kernel_rfl) ?_ | with_reducible refine chk (by kernel_rfl) ?_ | refine lit_ix (by rfl) (by rfl) ?_ | refine ldrow (by rfl) ?_ | refine ldrow1 ?_ | with_reducible refine stop ?_)
    all_goals refine Stop.mk ?_
  all_goals try
    refine call_fn [0, 1] (wU_fn _ _ _ (by (try simp only [List.length_append]); omega)) rfl ⟨rfl, rfl, trivial⟩ (by decide) ?_
    rintro sv H' G' ⟨rfl, rfl⟩ -
    refine ⟨Nat.le_of_ble_eq_true rfl, ?_⟩
    repeat' ((fail_if_success with_reducible refine Stop.mk ?_); (conv => whnf); first | with_reducible refine br_t ?_ | with_reducible refine br_f ?_ | with_reducible refine br_nn ?_ | with_reducible refine br_ns ?_ | with_reducible refine br_not ?_ | refine br_tt (by rfl) ?_ | refine br_ff (by rfl) ?_ | ((with_reducible refine br_d (fun h => ?_) (fun h => ?_)) <;> try (exfalso; omega)) | ((with_reducible refine br_e (fun h => ?_) (fun h => ?_)) <;> try (exfalso; omega)) | ((with_reducible refine br_n (fun h => ?_) (fun h => ?_)) <;> try (exfalso; omega)) | with_reducible refine drw (by kernel_rfl) ?_ | with_reducible refine chk (by kernel_rfl) ?_ | refine lit_ix (by rfl) (by rfl) ?_ | refine ldrow (by rfl) ?_ | refine ldrow1 ?_ | with_reducible refine stop ?_)
    all_goals refine Stop.mk ?_
  all_goals try
    refine call_fn [0, 1] (wU_fn _ _ _ (by (try simp only [List.length_append]); omega)) rfl ⟨rfl, rfl, trivial⟩ (by decide) ?_
    rintro sv H' G' ⟨rfl, rfl⟩ -
    refine ⟨Nat.le_of_ble_eq_true rfl, ?_⟩
    repeat' ((fail_if_success with_reducible refine Stop.mk ?_); (conv => whnf); first | with_reducible refine br_t ?_ | with_reducible refine br_f ?_ | with_reducible refine br_nn ?_ | with_reducible refine br_ns ?_ | with_reducible refine br_not ?_ | refine br_tt (by rfl) ?_ | refine br_ff (by rfl) ?_ | ((with_reducible refine br_d (fun h => ?_) (fun h => ?_)) <;> try (exfalso; omega)) | ((with_reducible refine br_e (fun h => ?_) (fun h => ?_)) <;> try (exfalso; omega)) | ((with_reducible refine br_n (fun h => ?_) (fun h => ?_)) <;> try (exfalso; omega)) | with_reducible refine drw (by kernel_rfl) ?_ | with_reducible refine chk (by kernel_rfl) ?_ | refine lit_ix (by rfl) (by rfl) ?_ | refine ldrow (by rfl) ?_ | refine ldrow1 ?_ | with_reducible refine stop ?_)
    all_goals refine Stop.mk ?_
  all_goals try
    refine call_fn [0, 1] (wU_fn _ _ _ (by (try simp only [List.length_append]); omega)) rfl ⟨rfl, rfl, trivial⟩ (by decide) ?_
    rintro sv H' G' ⟨rfl, rfl⟩ -
    refine ⟨Nat.le_of_ble_eq_true rfl, ?_⟩
    repeat' ((fail_if_success with_reducible refine Stop.mk ?_); (conv => whnf); first | with_reducible refine br_t ?_ | with_reducible refine br_f ?_ | with_reducible refine br_nn ?_ | with_reducible refine br_ns ?_ | with_reducible refine br_not ?_ | refine br_tt (by rfl) ?_ | refine br_ff (by rfl) ?_ | ((with_reducible refine br_d (fun h => ?_) (fun h => ?_)) <;> try (exfalso; omega)) | ((with_reducible refine br_e (fun h => ?_) (fun h => ?_)) <;> try (exfalso; omega)) | ((with_reducible refine br_n (fun h => ?_) (fun h => ?_)) <;> try (exfalso; omega)) | with_reducible refine drw (by kernel_rfl) ?_ | with_reducible refine chk (by kernel_rfl) ?_ | refine lit_ix (by rfl) (by rfl) ?_ | refine ldrow (by rfl) ?_ | refine ldrow1 ?_ | with_reducible refine stop ?_)
    all_goals refine Stop.mk ?_
  all_goals try
    refine call_fn [0, 1] (wint_fn _ imm _ hi1 hi2 (by (try simp only [List.length_append]); omega)) rfl ⟨rfl, rfl, trivial⟩ (by decide) ?_
    rintro sv H' G' ⟨rfl, rfl⟩ -
    refine ⟨Nat.le_of_ble_eq_true rfl, ?_⟩
    repeat' ((fail_if_success with_reducible refine Stop.mk ?_); (conv => whnf); first | with_reducible refine br_t ?_ | with_reducible refine br_f ?_ | with_reducible refine br_nn ?_ | with_reducible refine br_ns ?_ | with_reducible refine br_not ?_ | refine br_tt (by rfl) ?_ | refine br_ff (by rfl) ?_ | ((with_reducible refine br_d (fun h => ?_) (fun h => ?_)) <;> try (exfalso; omega)) | ((with_reducible refine br_e (fun h => ?_) (fun h => ?_)) <;> try (exfalso; omega)) | ((with_reducible refine br_n (fun h => ?_) (fun h => ?_)) <;> try (exfalso; omega)) | with_reducible refine drw (by kernel_rfl) ?_ | with_reducible refine chk (by kernel_rfl) ?_ | refine lit_ix (by rfl) (by rfl) ?_ | refine ldrow (by rfl) ?_ | refine ldrow1 ?_ | with_reducible refine stop ?_)
    all_goals refine Stop.mk ?_
  all_goals
    refine fin_id hE 2 rfl rfl rfl rfl ⟨rfl, (show wrH _ = wrH _ from congrArg wrH ?_)⟩
    simp [fieldsB]
def putInsB (i : Ins) : List Int := IntKind.u8.wrap i.op :: fieldsB (decide (uD i.op)) (decide (uA i.op)) (decide (uB i.op)) (decide (i.op = 1)) i.d i.a i.b i.imm
def putMacB (i : Mac) : List Int := IntKind.u8.wrap i.op :: (fieldsB (decide (uD i.op)) (decide (uA i.op)) (decide (uB i.op)) (decide (i.op = 1)) i.d i.a i.b i.imm ++ (if i.op = 18 then pU i.dst ++ pU i.src else []))
def putTrmB (t : Trm) : List Int := IntKind.u8.wrap t.kind :: ((if t.kind ≠ 1 then pU t.a else []) ++ (if t.kind ≠ 3 then pU t.to_ else []) ++ (if t.kind = 2 then pU t.els else []))
theorem putInsB_len (i : Ins) : 1 ≤ (putInsB i).length ∧ (putInsB i).length ≤ 41 := by
  have := fieldsB_len (decide (uD i.op)) (decide (uA i.op)) (decide (uB i.op)) (decide (i.op = 1)) i.d i.a i.b i.imm
  simp only [putInsB, List.length_cons]; omega
theorem putMacB_len (i : Mac) : 1 ≤ (putMacB i).length ∧ (putMacB i).length ≤ 61 := by
  have := fieldsB_len (decide (uD i.op)) (decide (uA i.op)) (decide (uB i.op)) (decide (i.op = 1)) i.d i.a i.b i.imm
  have := pU_len i.dst
  have := pU_len i.src
  simp only [putMacB, List.length_cons, List.length_append]
  split <;> (try simp only [List.length_append, List.length_nil]) <;> omega
theorem putTrmB_len (t : Trm) : 1 ≤ (putTrmB t).length ∧ (putTrmB t).length ≤ 31 := by
  have := pU_len t.a
  have := pU_len t.to_
  have := pU_len t.els
  simp only [putTrmB, List.length_cons, List.length_append]
  (repeat' split) <;> (try simp only [List.length_nil]) <;> omega
set_option maxHeartbeats 8000000 in
theorem putInstr_fn (G : Gh) (i : Ins) (xs : List Int) (hi : i.ok) (hlen : xs.length ≤ 800000) :
    Ct Try.prog 24 [.p 0 0, i.sv] (wrH xs) G fun sv H' G' => sv = .tup [] ∧ H' = wrH (xs ++ putInsB i) := by
  obtain ⟨hi1, hi2, hi3, hi4, hi5⟩ := hi
  refine fn_of follows [] Try.func24 rfl rfl fun E hE => ?_
  repeat' ((fail_if_success with_reducible refine Stop.mk ?_); (conv => whnf); with_reducible first | refine br_t ?_ | refine br_f ?_ | refine br_nn ?_ | refine br_ns ?_ | refine br_not ?_ | refine br_d (fun h => ?_) (fun h => ?_) | refine br_e (fun h => ?_) (fun h => ?_) | refine br_n (fun h => ?_) (fun h => ?_) | refine drw (by kernel_rfl) ?_ | refine chk (by kernel_rfl) ?_ | refine stop ?_)
  all_goals refine Stop.mk ?_
  refine call_fn [] (of_fn _ i.op) rfl trivial (by decide) ?_
  rintro sv H' G' ⟨rfl, rfl, rfl⟩ -
  refine ⟨Nat.le_of_ble_eq_true rfl, ?_⟩
  repeat' ((fail_if_success with_reducible refine Stop.mk ?_); (conv => whnf); with_reducible first | refine br_t ?_ | refine br_f ?_ | refine br_nn ?_ | refine br_ns ?_ | refine br_not ?_ | refine br_d (fun h => ?_) (fun h => ?_) | refine br_e (fun h => ?_) (fun h => ?_) | refine br_n (fun h => ?_) (fun h => ?_) | refine drw (by kernel_rfl) ?_ | refine chk (by kernel_rfl) ?_ | refine stop ?_)
  all_goals refine Stop.mk ?_
  refine call_fn [0, 1] (wbyte_fn _ (IntKind.u8.wrap i.op) xs (by omega)) rfl ⟨rfl, rfl, trivial⟩ (by decide) ?_
  rintro sv H' G' ⟨rfl, rfl⟩ -
  refine ⟨Nat.le_of_ble_eq_true rfl, ?_⟩
  repeat' ((fail_if_success with_reducible refine Stop.mk ?_); (conv => whnf); with_reducible first | refine br_t ?_ | refine br_f ?_ | refine br_nn ?_ | refine br_ns ?_ | refine br_not ?_ | refine br_d (fun h => ?_) (fun h => ?_) | refine br_e (fun h => ?_) (fun h => ?_) | refine br_n (fun h => ?_) (fun h => ?_) | refine drw (by kernel_rfl) ?_ | refine chk (by kernel_rfl) ?_ | refine stop ?_)
  all_goals refine Stop.mk ?_
  refine call_fn [0, 1] (fields_fn _ (decide (uD i.op)) (decide (uA i.op)) (decide (uB i.op)) (decide (i.op = 1)) i.d i.a i.b i.imm _ (shape_of i.op) hi5 (by simp only [List.length_append, List.length_cons, List.length_nil]; omega)) rfl ⟨rfl, rfl, trivial⟩ (by decide) ?_
  rintro sv H' G' ⟨rfl, rfl⟩ -
  refine ⟨Nat.le_of_ble_eq_true rfl, ?_⟩
  repeat' ((fail_if_success with_reducible refine Stop.mk ?_); (conv => whnf); with_reducible first | refine br_t ?_ | refine br_f ?_ | refine br_nn ?_ | refine br_ns ?_ | refine br_not ?_ | refine br_d (fun h => ?_) (fun h => ?_) | refine br_e (fun h => ?_) (fun h => ?_) | refine br_n (fun h => ?_) (fun h => ?_) | refine drw (by kernel_rfl) ?_ | refine chk (by kernel_rfl) ?_ | refine stop ?_)
  all_goals refine Stop.mk ?_
  refine fin_id hE 2 rfl rfl rfl rfl ⟨rfl, (show wrH _ = wrH _ from congrArg wrH ?_)⟩
  simp [putInsB]
set_option maxHeartbeats 8000000 in
theorem putMach_fn (G : Gh) (i : Mac) (xs : List Int) (hi : i.ok) (hlen : xs.length ≤ 800000) :
    Ct Try.prog 25 [.p 0 0, i.sv] (wrH xs) G fun sv H' G' => sv = .tup [] ∧ H' = wrH (xs ++ putMacB i) := by
  obtain ⟨hi1, hi2, hi3, hi4, hi5, hi6, hi7⟩ := hi
  refine fn_of follows [] Try.func25 rfl rfl fun E hE => ?_
  have hfl := fieldsB_len (decide (uD i.op)) (decide (uA i.op)) (decide (uB i.op)) (decide (i.op = 1)) i.d i.a i.b i.imm
  have hpd := pU_len i.dst
  repeat' ((fail_if_success with_reducible refine Stop.mk ?_); (conv => whnf); with_reducible first | refine br_t ?_ | refine br_f ?_ | refine br_nn ?_ | refine br_ns ?_ | refine br_not ?_ | refine br_d (fun h => ?_) (fun h => ?_) | refine br_e (fun h => ?_) (fun h => ?_) | refine br_n (fun h => ?_) (fun h => ?_) | refine drw (by kernel_rfl) ?_ | refine chk (by kernel_rfl) ?_ | refine stop ?_)
  all_goals refine Stop.mk ?_
  refine call_fn [] (of_fn _ i.op) rfl trivial (by decide) ?_
  rintro sv H' G' ⟨rfl, rfl, rfl⟩ -
  refine ⟨Nat.le_of_ble_eq_true rfl, ?_⟩
  repeat' ((fail_if_success with_reducible refine Stop.mk ?_); (conv => whnf); with_reducible first | refine br_t ?_ | refine br_f ?_ | refine br_nn ?_ | refine br_ns ?_ | refine br_not ?_ | refine br_d (fun h => ?_) (fun h => ?_) | refine br_e (fun h => ?_) (fun h => ?_) | refine br_n (fun h => ?_) (fun h => ?_) | refine drw (by kernel_rfl) ?_ | refine chk (by kernel_rfl) ?_ | refine stop ?_)
  all_goals refine Stop.mk ?_
  refine call_fn [0, 1] (wbyte_fn _ (IntKind.u8.wrap i.op) xs (by omega)) rfl ⟨rfl, rfl, trivial⟩ (by decide) ?_
  rintro sv H' G' ⟨rfl, rfl⟩ -
  refine ⟨Nat.le_of_ble_eq_true rfl, ?_⟩
  repeat' ((fail_if_success with_reducible refine Stop.mk ?_); (conv => whnf); with_reducible first | refine br_t ?_ | refine br_f ?_ | refine br_nn ?_ | refine br_ns ?_ | refine br_not ?_ | refine br_d (fun h => ?_) (fun h => ?_) | refine br_e (fun h => ?_) (fun h => ?_) | refine br_n (fun h => ?_) (fun h => ?_) | refine drw (by kernel_rfl) ?_ | refine chk (by kernel_rfl) ?_ | refine stop ?_)
  all_goals refine Stop.mk ?_
  refine call_fn [0, 1] (fields_fn _ (decide (uD i.op)) (decide (uA i.op)) (decide (uB i.op)) (decide (i.op = 1)) i.d i.a i.b i.imm _ (shape_of i.op) hi5 (by simp only [List.length_append, List.length_cons, List.length_nil]; omega)) rfl ⟨rfl, rfl, trivial⟩ (by decide) ?_
  rintro sv H' G' ⟨rfl, rfl⟩ -
  refine ⟨Nat.le_of_ble_eq_true rfl, ?_⟩
  repeat' ((fail_if_success with_reducible refine Stop.mk ?_); (conv => whnf); with_reducible first | refine br_t ?_ | refine br_f ?_ | refine br_nn ?_ | refine br_ns ?_ | refine br_not ?_ | refine br_d (fun h => ?_) (fun h => ?_) | refine br_e (fun h => ?_) (fun h => ?_) | refine br_n (fun h => ?_) (fun h => ?_) | refine drw (by kernel_rfl) ?_ | refine chk (by kernel_rfl) ?_ | refine stop ?_)
  all_goals refine Stop.mk ?_
  all_goals try
    refine call_fn [0, 1] (wU_fn _ i.dst _ (by simp only [List.length_append, List.length_cons, List.length_nil]; omega)) rfl ⟨rfl, rfl, trivial⟩ (by decide) ?_
    rintro sv H' G' ⟨rfl, rfl⟩ -
    refine ⟨Nat.le_of_ble_eq_true rfl, ?_⟩
    repeat' ((fail_if_success with_reducible refine Stop.mk ?_); (conv => whnf); with_reducible first | refine br_t ?_ | refine br_f ?_ | refine br_nn ?_ | refine br_ns ?_ | refine br_not ?_ | refine br_d (fun h => ?_) (fun h => ?_) | refine br_e (fun h => ?_) (fun h => ?_) | refine br_n (fun h => ?_) (fun h => ?_) | refine drw (by kernel_rfl) ?_ | refine chk (by kernel_rfl) ?_ | refine stop ?_)
    all_goals refine Stop.mk ?_
    refine call_fn [0, 1] (wU_fn _ i.src _ (by simp only [List.length_append, List.length_cons, List.length_nil]; omega)) rfl ⟨rfl, rfl, trivial⟩ (by decide) ?_
    rintro sv H' G' ⟨rfl, rfl⟩ -
    refine ⟨Nat.le_of_ble_eq_true rfl, ?_⟩
    repeat' ((fail_if_success with_reducible refine Stop.mk ?_); (conv => whnf); with_reducible first | refine br_t ?_ | refine br_f ?_ | refine br_nn ?_ | refine br_ns ?_ | refine br_not ?_ | refine br_d (fun h => ?_) (fun h => ?_) | refine br_e (fun h => ?_) (fun h => ?_) | refine br_n (fun h => ?_) (fun h => ?_) | refine drw (by kernel_rfl) ?_ | refine chk (by kernel_rfl) ?_ | refine stop ?_)
    all_goals refine Stop.mk ?_
  all_goals
    refine fin_id hE 2 rfl rfl rfl rfl ⟨rfl, (show wrH _ = wrH _ from congrArg wrH ?_)⟩
    simp [putMacB, *]
theorem succ_fn (G : Gh) (t : Trm) :
    Ct Try.prog 74 [t.sv] [] G fun sv H' G' => ((t.kind = 1 ∧ sv = .s 0 ∧ H' = [.row 3 1 1 [.int .i64 t.to_]]) ∨ (t.kind = 2 ∧ sv = .s 0 ∧ H' = [.row 3 1 2 [.int .i64 t.to_, .int .i64 t.els]]) ∨ (t.kind ≠ 1 ∧ t.kind ≠ 2 ∧ sv = .v (.slice none 0 0) ∧ H' = [])) ∧ G' = G := by
  refine fn_of follows [] Try.func74 rfl rfl fun E hE => ?_
  repeat' ((fail_if_success with_reducible refine Stop.mk ?_); (conv => whnf); with_reducible first | refine br_t ?_ | refine br_f ?_ | refine br_nn ?_ | refine br_ns ?_ | refine br_not ?_ | refine br_d (fun h => ?_) (fun h => ?_) | refine br_e (fun h => ?_) (fun h => ?_) | refine br_n (fun h => ?_) (fun h => ?_) | refine drw (by kernel_rfl) ?_ | refine chk (by kernel_rfl) ?_ | refine stop ?_)
  all_goals refine Stop.mk ?_
  · exact fin_mk hE [1] (.s 0) [.row 3 1 1 [.int .i64 t.to_]] rfl ⟨rfl, trivial⟩ rfl ⟨.inl ⟨by assumption, rfl, rfl⟩, rfl⟩
  · exact fin_mk hE [1] (.s 0) [.row 3 1 2 [.int .i64 t.to_, .int .i64 t.els]] rfl ⟨rfl, trivial⟩ rfl ⟨.inr (.inl ⟨by assumption, rfl, rfl⟩), rfl⟩
  · exact fin_id hE 0 rfl rfl rfl rfl ⟨.inr (.inr ⟨by assumption, by assumption, rfl, rfl⟩), rfl⟩
set_option maxHeartbeats 8000000 in
theorem putTerm_fn (G : Gh) (t : Trm) (xs : List Int) (hk : 1 ≤ t.kind ∧ t.kind ≤ 3) (hlen : xs.length ≤ 800000) :
    Ct Try.prog 26 [.p 0 0, t.sv] (wrH xs) G fun sv H' G' => sv = .tup [] ∧ H' = wrH (xs ++ putTrmB t) := by
  have ha := pU_len t.a
  have hto := pU_len t.to_
  refine fn_of follows [] Try.func26 rfl rfl fun E hE => ?_
  repeat' ((fail_if_success with_reducible refine Stop.mk ?_); (conv => whnf); with_reducible first | refine br_t ?_ | refine br_f ?_ | refine br_nn ?_ | refine br_ns ?_ | refine br_not ?_ | refine br_d (fun h => ?_) (fun h => ?_) | refine br_e (fun h => ?_) (fun h => ?_) | refine br_n (fun h => ?_) (fun h => ?_) | refine drw (by kernel_rfl) ?_ | refine chk (by kernel_rfl) ?_ | refine stop ?_)
  all_goals refine Stop.mk ?_
  refine call_fn [0, 1] (wbyte_fn _ (IntKind.u8.wrap t.kind) xs (by omega)) rfl ⟨rfl, rfl, trivial⟩ (by decide) ?_
  rintro sv H' G' ⟨rfl, rfl⟩ -
  refine ⟨Nat.le_of_ble_eq_true rfl, ?_⟩
  repeat' ((fail_if_success with_reducible refine Stop.mk ?_); (conv => whnf); with_reducible first | refine br_t ?_ | refine br_f ?_ | refine br_nn ?_ | refine br_ns ?_ | refine br_not ?_ | refine br_d (fun h => ?_) (fun h => ?_) | refine br_e (fun h => ?_) (fun h => ?_) | refine br_n (fun h => ?_) (fun h => ?_) | refine drw (by kernel_rfl) ?_ | refine chk (by kernel_rfl) ?_ | refine stop ?_)
  all_goals refine Stop.mk ?_
  all_goals try
    refine call_fn [0, 1] (wU_fn _ t.a _ (by simp only [List.length_append, List.length_cons, List.length_nil]; omega)) rfl ⟨rfl, rfl, trivial⟩ (by decide) ?_
    rintro sv H' G' ⟨rfl, rfl⟩ -
    refine ⟨Nat.le_of_ble_eq_true rfl, ?_⟩
    repeat' ((fail_if_success with_reducible refine Stop.mk ?_); (conv => whnf); with_reducible first | refine br_t ?_ | refine br_f ?_ | refine br_nn ?_ | refine br_ns ?_ | refine br_not ?_ | refine br_d (fun h => ?_) (fun h => ?_) | refine br_e (fun h => ?_) (fun h => ?_) | refine br_n (fun h => ?_) (fun h => ?_) | refine drw (by kernel_rfl) ?_ | refine chk (by kernel_rfl) ?_ | refine stop ?_)
    all_goals refine Stop.mk ?_
  all_goals
    refine call_fn [] (succ_fn _ t) rfl trivial (by decide) ?_
    rintro sv H' G' ⟨⟨h1, rfl, rfl⟩ | ⟨h1, rfl, rfl⟩ | ⟨h1, h2, rfl, rfl⟩, rfl⟩ -
  all_goals try (exfalso; omega)
  all_goals
    refine ⟨Nat.zero_le _, ?_⟩
    repeat' ((fail_if_success with_reducible refine Stop.mk ?_); (conv => whnf); first | with_reducible refine br_t ?_ | with_reducible refine br_f ?_ | with_reducible refine br_nn ?_ | with_reducible refine br_ns ?_ | with_reducible refine br_not ?_ | refine br_tt (by rfl) ?_ | refine br_ff (by rfl) ?_ | ((with_reducible refine br_d (fun h => ?_) (fun h => ?_)) <;> try (exfalso; omega)) | ((with_reducible refine br_e (fun h => ?_) (fun h => ?_)) <;> try (exfalso; omega)) | ((with_reducible refine br_n (fun h => ?_) (fun h => ?_)) <;> try (exfalso; omega)) | with_reducible refine drw (by kernel_rfl) ?_ | with_reducible refine chk (by kernel_rfl) ?_ | refine lit_ix (by rfl) (by rfl) ?_ | refine ldrow (by rfl) ?_ | refine ldrow1 ?_ | with_reducible refine stop ?_)
    all_goals refine Stop.mk ?_
    refine loop_unroll follows [] 4 ?_
    repeat' ((fail_if_success with_reducible refine Stop.mk ?_); (conv => whnf); first | with_reducible refine br_t ?_ | with_reducible refine br_f ?_ | with_reducible refine br_nn ?_ | with_reducible refine br_ns ?_ | with_reducible refine br_not ?_ | refine br_tt (by rfl) ?_ | refine br_ff (by rfl) ?_ | ((with_reducible refine br_d (fun h => ?_) (fun h => ?_)) <;> try (exfalso; omega)) | ((with_reducible refine br_e (fun h => ?_) (fun h => ?_)) <;> try (exfalso; omega)) | ((with_reducible refine br_n (fun h => ?_) (fun h => ?_)) <;> try (exfalso; omega)) | with_reducible refine drw (by kernel_rfl) ?_ | with_reducible refine chk (by kernel_rfl) ?_ | refine lit_ix (by rfl) (by rfl) ?_ | refine ldrow (by rfl) ?_ | refine ldrow1 ?_ | with_reducible refine stop ?_)
    all_goals refine Stop.mk ?_
  all_goals try
    refine call_fn [0, 1] (wU_fn _ t.to_ _ (by simp only [List.length_append, List.length_cons, List.length_nil]; omega)) rfl ⟨rfl, rfl, trivial⟩ (by decide) ?_
    rintro sv H' G' ⟨rfl, rfl⟩ -
    refine ⟨Nat.le_of_ble_eq_true rfl, ?_⟩
    repeat' ((fail_if_success with_reducible refine Stop.mk ?_); (conv => whnf); first | with_reducible refine br_t ?_ | with_reducible refine br_f ?_ | with_reducible refine br_nn ?_ | with_reducible refine br_ns ?_ | with_reducible refine br_not ?_ | refine br_tt (by rfl) ?_ | refine br_ff (by rfl) ?_ | ((with_reducible refine br_d (fun h => ?_) (fun h => ?_)) <;> try (exfalso; omega)) | ((with_reducible refine br_e (fun h => ?_) (fun h => ?_)) <;> try (exfalso; omega)) | ((with_reducible refine br_n (fun h => ?_) (fun h => ?_)) <;> try (exfalso; omega)) | with_reducible refine drw (by kernel_rfl) ?_ | with_reducible refine chk (by kernel_rfl) ?_ | refine lit_ix (by rfl) (by rfl) ?_ | refine ldrow (by rfl) ?_ | refine ldrow1 ?_ | with_reducible refine stop ?_)
    all_goals refine Stop.mk ?_
  all_goals try
    refine call_fn [0, 1] (wU_fn _ t.els _ (by simp only [List.length_append, List.length_cons, List.length_nil]; omega)) rfl ⟨rfl, rfl, trivial⟩ (by decide) ?_
    rintro sv H' G' ⟨rfl, rfl⟩ -
    refine ⟨Nat.le_of_ble_eq_true rfl, ?_⟩
    repeat' ((fail_if_success with_reducible refine Stop.mk ?_); (conv => whnf); first | with_reducible refine br_t ?_ | with_reducible refine br_f ?_ | with_reducible refine br_nn ?_ | with_reducible refine br_ns ?_ | with_reducible refine br_not ?_ | refine br_tt (by rfl) ?_ | refine br_ff (by rfl) ?_ | ((with_reducible refine br_d (fun h => ?_) (fun h => ?_)) <;> try (exfalso; omega)) | ((with_reducible refine br_e (fun h => ?_) (fun h => ?_)) <;> try (exfalso; omega)) | ((with_reducible refine br_n (fun h => ?_) (fun h => ?_)) <;> try (exfalso; omega)) | with_reducible refine drw (by kernel_rfl) ?_ | with_reducible refine chk (by kernel_rfl) ?_ | refine lit_ix (by rfl) (by rfl) ?_ | refine ldrow (by rfl) ?_ | refine ldrow1 ?_ | with_reducible refine stop ?_)
    all_goals refine Stop.mk ?_
  all_goals
    refine fin_id hE 2 rfl rfl rfl rfl ⟨rfl, (show wrH _ = wrH _ from congrArg wrH ?_)⟩
    first
      | (have h3 : t.kind = 1 := by omega
         simp [putTrmB, h3])
      | (have h3 : t.kind = 2 := by omega
         simp [putTrmB, h3])
      | (have h3 : t.kind = 3 := by omega
         simp [putTrmB, h3])
end Go.Proofs.Ytknpjbbkageiiaa.Cu
