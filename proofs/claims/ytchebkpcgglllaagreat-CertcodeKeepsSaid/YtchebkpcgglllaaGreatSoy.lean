/- Soy: So3, So4, So7 in one text. -/
import Derived.Test.YtchebkpcgglllaaGreatSox
namespace Go.Proofs.YtchebkpcgglllaaGreat.Cu
open Go Go.SX Go.Proofs.YtchebkpcgglllaaGreat.VT
set_option maxRecDepth 100000
set_option linter.unusedVariables false
set_option linter.unusedSimpArgs false
theorem rinE_fn (G : Gh) (x n : Int) : Ct Tryz.prog 144 [.v (.int .i64 x), .v (.int .i64 n)] [] G fun sv H' G' => sv = .v (.bool (decide (0 ≤ x ∧ x < n))) ∧ H' = [] ∧ G' = G := by
  refine fn_of follows [] Tryz.func144 rfl rfl fun E hE => ?_
  repeat' ((fail_if_success with_reducible refine Stop.mk ?_);(conv=>whnf);with_reducible first|refine br_d (fun h=>?_) fun h=>?_|refine stop ?_)
  all_goals refine Stop.mk ?_
  all_goals refine fin_all ⟨congrArg (fun b => SV.v (.bool b)) ?_, rfl, rfl⟩
  all_goals
    refine bdec ?_
    simp only [decide_eq_true_iff, beq_iff_eq, bne_iff_ne, ne_eq, Bool.false_eq_true, false_iff, true_iff] at *
    omega
/-- The error of an instruction, by its shape. -/
theorem eIns_is {regs : Int} {i : Ins} {sD sA sB sI : Bool} (e1 : decide (uD i.op) = sD) (e2 : decide (uA i.op) = sA) (e3 : decide (uB i.op) = sB) (e4 : decide (i.op = 1) = sI) :
    eIns regs i = if 1 ≤ i.op ∧ i.op ≤ 17 then (if (sD = true → 0 ≤ i.d ∧ i.d < regs) ∧ (sA = true → 0 ≤ i.a ∧ i.a < regs) ∧ (sB = true → 0 ≤ i.b ∧ i.b < regs) then (if ((sD = false → i.d = 0) ∧ (sA = false → i.a = 0) ∧ (sB = false → i.b = 0)) ∧ (sI = false → i.imm = 0) then 0 else 12) else 9) else 8 := by
  subst e1 e2 e3 e4
  have h1 : (known i.op ∧ i.op ≠ 18) = (1 ≤ i.op ∧ i.op ≤ 17) := by unfold known; exact propext (by omega)
  have h2 : (wOk (fI regs i) = true) = ((decide (uD i.op) = true → 0 ≤ i.d ∧ i.d < regs) ∧ (decide (uA i.op) = true → 0 ≤ i.a ∧ i.a < regs) ∧ (decide (uB i.op) = true → 0 ≤ i.b ∧ i.b < regs)) := by
    unfold wOk fI
    simp only [List.all_cons, List.all_nil, Bool.and_true, Bool.and_eq_true, Bool.or_eq_true, Bool.not_eq_true', decide_eq_true_eq, decide_eq_false_iff_not]
    exact propext (by
      constructor
      · rintro ⟨a, b, c⟩; exact ⟨fun h => a.resolve_left (fun h' => h' h), fun h => b.resolve_left (fun h' => h' h), fun h => c.resolve_left (fun h' => h' h)⟩
      · rintro ⟨a, b, c⟩; exact ⟨(Classical.em _).elim (fun h => .inr (a h)) .inl, (Classical.em _).elim (fun h => .inr (b h)) .inl, (Classical.em _).elim (fun h => .inr (c h)) .inl⟩)
  have h3 : (bOk (fI regs i) = true ∧ (i.op = 1 ∨ i.imm = 0)) = (((decide (uD i.op) = false → i.d = 0) ∧ (decide (uA i.op) = false → i.a = 0) ∧ (decide (uB i.op) = false → i.b = 0)) ∧ (decide (i.op = 1) = false → i.imm = 0)) := by
    unfold bOk fI
    simp only [List.all_cons, List.all_nil, Bool.and_true, Bool.and_eq_true, Bool.or_eq_true, decide_eq_true_eq, decide_eq_false_iff_not]
    exact propext (by
      constructor
      · rintro ⟨⟨a, b, c⟩, d⟩; exact ⟨⟨fun h => a.resolve_left h, fun h => b.resolve_left h, fun h => c.resolve_left h⟩, fun h => d.resolve_left h⟩
      · rintro ⟨⟨a, b, c⟩, d⟩; exact ⟨⟨(Classical.em _).imp id a, (Classical.em _).imp id b, (Classical.em _).imp id c⟩, (Classical.em _).imp id d⟩)
  unfold eIns
  simp only [h1, h2, h3]
set_option maxHeartbeats 8000000 in
theorem r7InstrE_fn (G : Gh) (i : Ins) (regs : Int) :
    Ct Tryz.prog 104 [i.sv, .v (.int .i64 regs)] [] G fun sv H' G' => sv = .v (.int .i64 (eIns regs i)) ∧ H' = [] ∧ G' = G := by
  refine fn_of follows [] Tryz.func104 rfl rfl fun E hE => ?_
  rcases shape_of i.op with ⟨e1, e2, e3, e4⟩ | ⟨e1, e2, e3, e4⟩ | ⟨e1, e2, e3, e4⟩ | ⟨e1, e2, e3, e4⟩ | ⟨e1, e2, e3, e4⟩
  all_goals
    have hsp := eIns_is (regs := regs) e1 e2 e3 e4
    simp only [Bool.false_eq_true, false_implies, true_implies, true_and, and_true, Bool.true_eq_false] at hsp
    repeat' ((fail_if_success with_reducible refine Stop.mk ?_);(conv=>whnf);with_reducible first|refine br_t ?_|refine br_d (fun h=>?_) fun h=>?_|refine stop ?_)
    all_goals refine Stop.mk ?_
  all_goals try
    refine call_fn [] (usesD_fn _ i.op) rfl trivial (by decide) ?_
    rintro sv H' G' ⟨rfl, rfl, rfl⟩ -
    refine ⟨Nat.le_of_ble_eq_true rfl, ?_⟩
    rw [e1]
    repeat' ((fail_if_success with_reducible refine Stop.mk ?_);(conv=>whnf);with_reducible first|refine br_t ?_|refine br_f ?_|refine stop ?_)
    all_goals refine Stop.mk ?_
  all_goals try
    refine call_fn [] (rinE_fn _ i.d regs) rfl trivial (by decide) ?_
    rintro sv H' G' ⟨rfl, rfl, rfl⟩ -
    refine ⟨Nat.le_of_ble_eq_true rfl, ?_⟩
    repeat' ((fail_if_success with_reducible refine Stop.mk ?_);(conv=>whnf);with_reducible first|refine br_t ?_|refine br_not ?_|refine br_d (fun h=>?_) fun h=>?_|refine stop ?_)
    all_goals refine Stop.mk ?_
  all_goals try
    refine call_fn [] (usesA_fn _ i.op) rfl trivial (by decide) ?_
    rintro sv H' G' ⟨rfl, rfl, rfl⟩ -
    refine ⟨Nat.le_of_ble_eq_true rfl, ?_⟩
    rw [e2]
    repeat' ((fail_if_success with_reducible refine Stop.mk ?_);(conv=>whnf);with_reducible first|refine br_t ?_|refine br_f ?_|refine stop ?_)
    all_goals refine Stop.mk ?_
  all_goals try
    refine call_fn [] (rinE_fn _ i.a regs) rfl trivial (by decide) ?_
    rintro sv H' G' ⟨rfl, rfl, rfl⟩ -
    refine ⟨Nat.le_of_ble_eq_true rfl, ?_⟩
    repeat' ((fail_if_success with_reducible refine Stop.mk ?_);(conv=>whnf);with_reducible first|refine br_t ?_|refine br_not ?_|refine br_d (fun h=>?_) fun h=>?_|refine stop ?_)
    all_goals refine Stop.mk ?_
  all_goals try
    refine call_fn [] (usesB_fn _ i.op) rfl trivial (by decide) ?_
    rintro sv H' G' ⟨rfl, rfl, rfl⟩ -
    refine ⟨Nat.le_of_ble_eq_true rfl, ?_⟩
    rw [e3]
    repeat' ((fail_if_success with_reducible refine Stop.mk ?_);(conv=>whnf);with_reducible first|refine br_t ?_|refine br_f ?_|refine stop ?_)
    all_goals refine Stop.mk ?_
  all_goals try
    refine call_fn [] (rinE_fn _ i.b regs) rfl trivial (by decide) ?_
    rintro sv H' G' ⟨rfl, rfl, rfl⟩ -
    refine ⟨Nat.le_of_ble_eq_true rfl, ?_⟩
    repeat' ((fail_if_success with_reducible refine Stop.mk ?_);(conv=>whnf);with_reducible first|refine br_not ?_|refine br_d (fun h=>?_) fun h=>?_|refine stop ?_)
    all_goals refine Stop.mk ?_
  all_goals try
    refine call_fn [] (usesD_fn _ i.op) rfl trivial (by decide) ?_
    rintro sv H' G' ⟨rfl, rfl, rfl⟩ -
    refine ⟨Nat.le_of_ble_eq_true rfl, ?_⟩
    rw [e1]
    repeat' ((fail_if_success with_reducible refine Stop.mk ?_);(conv=>whnf);with_reducible first|refine br_t ?_|refine br_f ?_|refine br_not ?_|refine br_n (fun h=>?_) fun h=>?_|refine stop ?_)
    all_goals refine Stop.mk ?_
  all_goals try
    refine call_fn [] (usesA_fn _ i.op) rfl trivial (by decide) ?_
    rintro sv H' G' ⟨rfl, rfl, rfl⟩ -
    refine ⟨Nat.le_of_ble_eq_true rfl, ?_⟩
    rw [e2]
    repeat' ((fail_if_success with_reducible refine Stop.mk ?_);(conv=>whnf);with_reducible first|refine br_t ?_|refine br_f ?_|refine br_not ?_|refine br_n (fun h=>?_) fun h=>?_|refine stop ?_)
    all_goals refine Stop.mk ?_
  all_goals try
    refine call_fn [] (usesB_fn _ i.op) rfl trivial (by decide) ?_
    rintro sv H' G' ⟨rfl, rfl, rfl⟩ -
    refine ⟨Nat.le_of_ble_eq_true rfl, ?_⟩
    rw [e3]
    repeat' ((fail_if_success with_reducible refine Stop.mk ?_);(conv=>whnf);with_reducible first|refine br_t ?_|refine br_f ?_|refine br_not ?_|refine br_n (fun h=>?_) fun h=>?_|refine stop ?_)
    all_goals refine Stop.mk ?_
  all_goals
    refine fin_id hE 0 rfl rfl rfl rfl ⟨congrArg (fun e => SV.v (.int .i64 e)) ?_, rfl, rfl⟩
    rw [hsp]
    simp only [decide_eq_true_eq, decide_eq_false_iff_not] at e1 e2 e3 e4
    simp only [uD, uA, uB] at e1 e2 e3
    (repeat' split) <;> omega
set_option maxHeartbeats 8000000 in
theorem r7TermE_fn (G : Gh) (t : Trm) (regs blocks : Int) :
    Ct Tryz.prog 105 [t.sv, .v (.int .i64 regs), .v (.int .i64 blocks)] [] G fun sv H' G' => sv = .v (.int .i64 (eTrm regs blocks t)) ∧ H' = [] ∧ G' = G := by
  have hw : eTrm regs blocks t = if t.kind < 1 ∨ t.kind > 3 then 16 else if (t.kind = 1 ∨ (0 ≤ t.a ∧ t.a < regs)) then (if (t.kind = 3 ∨ (0 ≤ t.to_ ∧ t.to_ < blocks)) ∧ (t.kind ≠ 2 ∨ (0 ≤ t.els ∧ t.els < blocks)) then (if (t.kind ≠ 1 ∨ t.a = 0) ∧ (t.kind ≠ 3 ∨ t.to_ = 0) ∧ (t.kind = 2 ∨ t.els = 0) then 0 else 12) else 11) else 9 := by
    unfold eTrm wOk bOk fA fT fE
    simp only [List.all_cons, List.all_nil, Bool.and_true, Bool.and_eq_true, Bool.or_eq_true, Bool.not_eq_true', decide_eq_true_eq, decide_eq_false_iff_not, ne_eq, Decidable.not_not, bne_iff_ne, beq_iff_eq, bne_eq_false_iff_eq, beq_eq_false_iff_ne]
  refine fn_of follows [] Tryz.func105 rfl rfl fun E hE => ?_
  repeat' ((fail_if_success with_reducible refine Stop.mk ?_);(conv=>whnf);with_reducible first|refine br_e (fun h=>?_) fun h=>?_|refine stop ?_)
  all_goals refine Stop.mk ?_
  all_goals try
    refine call_fn [] (rinE_fn _ t.to_ blocks) rfl trivial (by decide) ?_
    rintro sv H' G' ⟨rfl, rfl, rfl⟩ -
    refine ⟨Nat.le_of_ble_eq_true rfl, ?_⟩
    repeat' ((fail_if_success with_reducible refine Stop.mk ?_);(conv=>whnf);with_reducible first|refine br_t ?_|refine br_not ?_|refine br_d (fun h=>?_) fun h=>?_|refine br_n (fun h=>?_) fun h=>?_|refine stop ?_)
    all_goals refine Stop.mk ?_
  all_goals try
    refine call_fn [] (rinE_fn _ t.a regs) rfl trivial (by decide) ?_
    rintro sv H' G' ⟨rfl, rfl, rfl⟩ -
    refine ⟨Nat.le_of_ble_eq_true rfl, ?_⟩
    repeat' ((fail_if_success with_reducible refine Stop.mk ?_);(conv=>whnf);with_reducible first|refine br_t ?_|refine br_not ?_|refine br_d (fun h=>?_) fun h=>?_|refine br_n (fun h=>?_) fun h=>?_|refine stop ?_)
    all_goals refine Stop.mk ?_
  all_goals try
    refine call_fn [] (rinE_fn _ t.to_ blocks) rfl trivial (by decide) ?_
    rintro sv H' G' ⟨rfl, rfl, rfl⟩ -
    refine ⟨Nat.le_of_ble_eq_true rfl, ?_⟩
    repeat' ((fail_if_success with_reducible refine Stop.mk ?_);(conv=>whnf);with_reducible first|refine br_t ?_|refine br_not ?_|refine br_d (fun h=>?_) fun h=>?_|refine stop ?_)
    all_goals refine Stop.mk ?_
  all_goals try
    refine call_fn [] (rinE_fn _ t.els blocks) rfl trivial (by decide) ?_
    rintro sv H' G' ⟨rfl, rfl, rfl⟩ -
    refine ⟨Nat.le_of_ble_eq_true rfl, ?_⟩
    repeat' ((fail_if_success with_reducible refine Stop.mk ?_);(conv=>whnf);with_reducible first|refine br_not ?_|refine br_d (fun h=>?_) fun h=>?_|refine stop ?_)
    all_goals refine Stop.mk ?_
  all_goals
    refine fin_id hE 0 rfl rfl rfl rfl ⟨congrArg (fun e => SV.v (.int .i64 e)) ?_, rfl, rfl⟩
    rw [hw]
    (repeat' split) <;> omega
end Go.Proofs.YtchebkpcgglllaaGreat.Cu

namespace Go.Proofs.YtchebkpcgglllaaGreat.Cu
open Go Go.SX Go.Proofs.YtchebkpcgglllaaGreat.VT
set_option maxRecDepth 100000
set_option linter.unusedVariables false
set_option linter.unusedSimpArgs false
set_option maxHeartbeats 8000000 in
theorem srcCode_fn (G : Gh) (A : Option Addr) (c : Nat) (f : Fn) (hl : kBlk.S G A c f.blocks) (hbl : f.blocks.length ≤ 1000000000) (hcl : totB f.blocks ≤ 1000000000) :
    Ct Tryz.prog 129 [fnS A c f] [] G fun sv H' G' => sv = .v (.int .i64 (totB f.blocks)) ∧ H' = [] ∧ G' = G := by
  refine fn_of follows [] Tryz.func129 rfl rfl fun E hE => ?_
  have hcap := hl.cap
  unfold fnS
  repeat' ((fail_if_success with_reducible refine Stop.mk ?_);(conv=>whnf);with_reducible refine stop ?_)
  all_goals refine Stop.mk ?_
  refine loop_vars follows [] (α := Nat) (fun k => [(3, .v (.int .i64 (totB (f.blocks.take k)))), (9, .v (.int .i64 k))]) (fun x => [.cells 25 [.v (.int .i64 f.args), .v (.int .i64 f.regs), .v (.slice A f.blocks.length c)]]) (fun x => G) (fun k => k ≤ f.blocks.length) (fun k => f.blocks.length - k) 0
    (Nat.zero_le _) rfl rfl ?_ ?_
  ·
    refine ⟨?_⟩
    (conv => whnf)
    (repeat' (first | exact trivial | exact .inl rfl | exact .inr rfl | refine And.intro ?_ ?_))
  intro k hk
  have hw2 : IntKind.i64.wrap ((k : Int) + 1) = ((k + 1 : Nat) : Int) := by rw [i64_in (by omega) (by omega)]; simp
  have htt := totB_take f.blocks k
  have htl := totB_le f.blocks (k + 1)
  repeat' ((fail_if_success with_reducible refine Stop.mk ?_);(conv=>whnf);with_reducible first|refine br_d (fun h=>?_) fun h=>?_|refine stop ?_)
  all_goals refine Stop.mk ?_
  ·
    obtain ⟨_, hs_, hat_⟩ := hl.at (sz := 5) rfl
    refine ⟨⟨by omega, by omega⟩, _, hs_, fun ad had hadr => ?_⟩
    obtain ⟨b, cells, hb, hRb, hGb⟩ := hat_ k (by omega) ad (by first | exact had | (rw [Int.toNat_natCast] at had; exact had))
    clear had hat_ hs_
    obtain ⟨A', c', rfl, hS, hbt⟩ := kBlk_R hRb
    replace htt := htt b hb
    have hw3 : IntKind.i64.wrap ((totB (f.blocks.take k) : Int) + (b.code.length : Int)) = ((totB (f.blocks.take (k + 1)) : Nat) : Int) := by rw [i64_in (by omega) (by omega), htt]; simp
    repeat' ((fail_if_success with_reducible refine Stop.mk ?_);(conv=>whnf);with_reducible refine stop ?_)
    all_goals refine Stop.mk ?_
    refine ⟨_, rfl, hGb, ?_⟩
    repeat' ((fail_if_success with_reducible refine Stop.mk ?_);(conv=>whnf);with_reducible refine stop ?_)
    all_goals refine Stop.mk ?_
    rw [hw2, hw3]
    refine tell_gc hE [0] rfl rfl ?_
    (conv => whnf)
    refine tell_here ⟨k + 1, by omega, by show f.blocks.length - (k + 1) < f.blocks.length - k; omega, rfl, rfl, ?_⟩
    refine ⟨?_⟩
    (conv => whnf)
    (repeat' (first | exact trivial | exact .inl rfl | exact .inr rfl | refine And.intro ?_ ?_))
  · have hkl : k = f.blocks.length := by omega
    subst hkl
    rw [List.take_length]
    exact fin_id hE 0 rfl rfl rfl rfl ⟨rfl, rfl, rfl⟩
def bS (A : Option Addr) (c : Nat) (b : Blk) : SV := .agg [.v (.slice A b.code.length c), .v (.int .i64 b.term.kind), .v (.int .i64 b.term.a), .v (.int .i64 b.term.to_), .v (.int .i64 b.term.els)]
theorem eBlk_code {regs n : Int} {b : Blk} {j : Nat} {i : Ins} (hi : b.code[j]? = some i) (h0 : ∀ k, k < j → eAt (eIns regs) b.code k = 0) (h1 : eIns regs i ≠ 0) : eBlk regs n b = eIns regs i := by
  unfold eBlk first0
  rw [firstN_at _ j (by rw [eAt_is hi]; exact h1) h0 _ (List.getElem?_eq_some_iff.1 hi).1, eAt_is hi, if_pos h1]
theorem eBlk_term {regs n : Int} {b : Blk} (h0 : ∀ i, i < b.code.length → eAt (eIns regs) b.code i = 0) : eBlk regs n b = eTrm regs n b.term := by
  unfold eBlk first0
  rw [firstN_zero _ _ h0, if_neg (by simp)]
def SBase (f : Fn) : Prop := (0 ≤ f.args ∧ f.args ≤ f.regs) ∧ f.regs ≤ 1048576 ∧ f.blocks.length ≠ 0 ∧ f.blocks.length ≤ 1048576 ∧ totB f.blocks ≤ 1048576
theorem eFn_base {f : Fn} (h : SBase f) : eFn f = first0 (eBlk f.regs f.blocks.length) f.blocks := by
  obtain ⟨h1, h2, h3, h4, h5⟩ := h
  unfold eFn
  rw [if_neg (by omega), if_neg (by omega), if_neg h3, if_neg (by omega)]
theorem eFn_at {f : Fn} (h : SBase f) {k : Nat} {b : Blk} (hb : f.blocks[k]? = some b) (h0 : ∀ j, j < k → eAt (eBlk f.regs f.blocks.length) f.blocks j = 0) (h1 : eBlk f.regs f.blocks.length b ≠ 0) : eFn f = eBlk f.regs f.blocks.length b := by
  rw [eFn_base h]
  unfold first0
  rw [firstN_at _ k (by rw [eAt_is hb]; exact h1) h0 _ (List.getElem?_eq_some_iff.1 hb).1, eAt_is hb]
theorem eFn_zero {f : Fn} (h : SBase f) (h0 : ∀ j, j < f.blocks.length → eAt (eBlk f.regs f.blocks.length) f.blocks j = 0) : eFn f = 0 := by
  rw [eFn_base h]
  exact firstN_zero _ _ h0
theorem eAtS_next {α : Type} {e : α → Int} {l : List α} {k : Nat} {x : α} (hx : l[k]? = some x) (h0 : ∀ j, j < k → eAt e l j = 0) (h : e x = 0) : ∀ j, j < k + 1 → eAt e l j = 0 := by
  intro j hj
  rcases Nat.lt_or_ge j k with h1 | h1
  · exact h0 j h1
  · have : j = k := by omega
    subst this
    rw [eAt_is hx]; exact h
set_option maxHeartbeats 8000000 in
theorem srcBlock_fn (G : Gh) (B : Option Addr) (d : Nat) (b : Blk) (regs n : Int) (hl : kIns.S G B d b.code) :
    Ct Tryz.prog 130 [bS B d b, .v (.int .i64 regs), .v (.int .i64 n)] [] G fun sv H' G' => sv = .v (.int .i64 (eBlk regs n b)) ∧ H' = [] := by
  refine fn_of follows [] Tryz.func130 rfl rfl fun E hE => ?_
  have hcap := hl.cap
  unfold bS
  repeat' ((fail_if_success with_reducible refine Stop.mk ?_);(conv=>whnf);with_reducible refine stop ?_)
  all_goals refine Stop.mk ?_
  refine loop_vars follows [] (α := Nat × Gh) (fun x => [(13, .v (.int .i64 x.1))]) (fun x => [.cells 60 [.v (.slice B b.code.length d), .v (.int .i64 b.term.kind), .v (.int .i64 b.term.a), .v (.int .i64 b.term.to_), .v (.int .i64 b.term.els)]]) (fun x => x.2)
    (fun x => x.1 ≤ b.code.length ∧ kIns.S x.2 B d b.code ∧ ∀ i, i < x.1 → eAt (eIns regs) b.code i = 0) (fun x => b.code.length - x.1) (0, G)
    ⟨Nat.zero_le _, hl, fun j h => absurd h (Nat.not_lt_zero _)⟩ rfl rfl ?_ ?_
  ·
    refine ⟨?_⟩
    (conv => whnf)
    (repeat' (first | exact trivial | exact .inl rfl | exact .inr rfl | refine And.intro ?_ ?_))
  clear hl
  rintro ⟨j, Gj⟩ ⟨hj, hl, hchk⟩
  dsimp only at hj hl hchk ⊢
  repeat' ((fail_if_success with_reducible refine Stop.mk ?_);(conv=>whnf);with_reducible first|refine br_d (fun h=>?_) fun h=>?_|refine stop ?_)
  all_goals refine Stop.mk ?_
  ·
    obtain ⟨_, hs_, hat_⟩ := hl.at (sz := 5) rfl
    refine ⟨⟨by omega, by omega⟩, _, hs_, fun ad had hadr => ?_⟩
    obtain ⟨i, cells, hi, hRi, hGi⟩ := hat_ j (by omega) ad (by first | exact had | (rw [Int.toNat_natCast] at had; exact had))
    clear had hat_ hs_
    obtain ⟨rfl, hiok⟩ := hRi
    have hw2 : IntKind.i64.wrap ((j : Int) + 1) = ((j + 1 : Nat) : Int) := by rw [i64_in (by omega) (by omega)]; simp
    have hco := eBlk_code (regs := regs) (n := n) hi hchk
    repeat' ((fail_if_success with_reducible refine Stop.mk ?_);(conv=>whnf);with_reducible refine stop ?_)
    all_goals refine Stop.mk ?_
    refine ⟨_, rfl, hGi, ?_⟩
    repeat' ((fail_if_success with_reducible refine Stop.mk ?_);(conv=>whnf);with_reducible refine stop ?_)
    all_goals refine Stop.mk ?_
    refine call_fn [] (srcInstr_fn _ i regs) rfl trivial (by decide) ?_
    rintro sv H' G' ⟨rfl, rfl⟩ hg
    refine ⟨Nat.le_of_ble_eq_true rfl, ?_⟩
    replace hl := hl.to hg
    clear hg
    generalize hei : eIns regs i = e at *
    repeat' ((fail_if_success with_reducible refine Stop.mk ?_);(conv=>whnf);with_reducible first|refine br_n (fun h=>?_) fun h=>?_|refine stop ?_)
    all_goals refine Stop.mk ?_
    all_goals try
      refine fin_id hE 0 rfl rfl rfl rfl ⟨congrArg (fun e => SV.v (.int .i64 e)) ?_, rfl⟩
      rw [hco (by assumption)]
    have he0 : e = 0 := by omega
    rw [hw2]
    refine tell_gc hE [0] rfl rfl ?_
    (conv => whnf)
    refine tell_here ⟨(j + 1, _), ⟨by show j + 1 ≤ _; omega, hl, eAtS_next hi hchk (by rw [hei]; exact he0)⟩, by show b.code.length - (j + 1) < b.code.length - j; omega, rfl, rfl, ?_⟩
    refine ⟨?_⟩
    (conv => whnf)
    (repeat' (first | exact trivial | exact .inl rfl | exact .inr rfl | refine And.intro ?_ ?_))
  · have hjl : j = b.code.length := by omega
    subst hjl
    have hbt2 := eBlk_term (n := n) hchk
    refine call_fn [] (srcTerm_fn _ b.term regs n) rfl trivial (by decide) ?_
    rintro sv H' G' ⟨rfl, rfl⟩ -
    refine ⟨Nat.le_of_ble_eq_true rfl, ?_⟩
    repeat' ((fail_if_success with_reducible refine Stop.mk ?_);(conv=>whnf);with_reducible refine stop ?_)
    all_goals refine Stop.mk ?_
    refine fin_id hE 0 rfl rfl rfl rfl ⟨congrArg (fun e => SV.v (.int .i64 e)) ?_, rfl⟩
    rw [hbt2]
set_option maxHeartbeats 8000000 in
theorem srcCheck_fn (G : Gh) (A : Option Addr) (c : Nat) (f : Fn) (hl : kBlk.S G A c f.blocks) (hbl : f.blocks.length ≤ 1000000000) (htl : totB f.blocks ≤ 1000000000) :
    Ct Tryz.prog 89 [fnS A c f] [] G fun sv H' G' => sv = .v (.int .i64 (eFn f)) ∧ H' = [] := by
  have hef : eFn f = if f.args < 0 ∨ f.args > f.regs then 9 else if f.regs > 1048576 then 6 else if f.blocks.length = 0 then 14
    else if f.blocks.length > 1048576 ∨ totB f.blocks > 1048576 then 6 else first0 (eBlk f.regs f.blocks.length) f.blocks := rfl
  refine fn_of follows [] Tryz.func89 rfl rfl fun E hE => ?_
  have hcap := hl.cap
  unfold fnS
  repeat' ((fail_if_success with_reducible refine Stop.mk ?_);(conv=>whnf);with_reducible first|refine br_t ?_|refine br_d (fun h=>?_) fun h=>?_|refine br_e (fun h=>?_) fun h=>?_|refine stop ?_)
  all_goals refine Stop.mk ?_
  all_goals try
    refine call_fn [] (srcCode_fn _ A c f hl hbl htl) rfl trivial (by decide) ?_
    rintro sv H' G' ⟨rfl, rfl, rfl⟩ -
    refine ⟨Nat.le_of_ble_eq_true rfl, ?_⟩
    repeat' ((fail_if_success with_reducible refine Stop.mk ?_);(conv=>whnf);with_reducible first|refine br_d (fun h=>?_) fun h=>?_|refine stop ?_)
    all_goals refine Stop.mk ?_
  all_goals try
    refine fin_id hE 0 rfl rfl rfl rfl ⟨congrArg (fun e => SV.v (.int .i64 e)) ?_, rfl⟩
    rw [hef]
    generalize first0 (eBlk f.regs f.blocks.length) f.blocks = z at *
    clear hef
    (repeat' split) <;> omega
  clear hef
  have hbase : SBase f := by unfold SBase; omega
  refine loop_vars follows [] (α := Nat × Gh) (fun x => [(39, .v (.int .i64 x.1))]) (fun x => [.cells 25 [.v (.int .i64 f.args), .v (.int .i64 f.regs), .v (.slice A f.blocks.length c)]]) (fun x => x.2)
    (fun x => x.1 ≤ f.blocks.length ∧ kBlk.S x.2 A c f.blocks ∧ ∀ j, j < x.1 → eAt (eBlk f.regs f.blocks.length) f.blocks j = 0) (fun x => f.blocks.length - x.1) (0, _)
    ⟨Nat.zero_le _, hl, fun j h => absurd h (Nat.not_lt_zero _)⟩ rfl rfl ?_ ?_
  ·
    refine ⟨?_⟩
    (conv => whnf)
    (repeat' (first | exact trivial | exact .inl rfl | exact .inr rfl | refine And.intro ?_ ?_))
  clear hl
  rintro ⟨k, Gk⟩ ⟨hk, hl, hall⟩
  dsimp only at hk hl hall ⊢
  have hw2 : IntKind.i64.wrap ((k : Int) + 1) = ((k + 1 : Nat) : Int) := by rw [i64_in (by omega) (by omega)]; simp
  repeat' ((fail_if_success with_reducible refine Stop.mk ?_);(conv=>whnf);with_reducible first|refine br_d (fun h=>?_) fun h=>?_|refine stop ?_)
  all_goals refine Stop.mk ?_
  ·
    obtain ⟨_, hs_, hat_⟩ := hl.at (sz := 5) rfl
    refine ⟨⟨by omega, by omega⟩, _, hs_, fun ad had hadr => ?_⟩
    obtain ⟨b, cells, hb, hRb, hGb⟩ := hat_ k (by omega) ad (by first | exact had | (rw [Int.toNat_natCast] at had; exact had))
    clear had hat_ hs_
    obtain ⟨A', c', rfl, hS, hbt⟩ := kBlk_R hRb
    have hat := eFn_at hbase hb hall
    repeat' ((fail_if_success with_reducible refine Stop.mk ?_);(conv=>whnf);with_reducible refine stop ?_)
    all_goals refine Stop.mk ?_
    refine ⟨_, rfl, hGb, ?_⟩
    repeat' ((fail_if_success with_reducible refine Stop.mk ?_);(conv=>whnf);with_reducible refine stop ?_)
    all_goals refine Stop.mk ?_
    refine call_fn [] (srcBlock_fn _ A' c' b f.regs f.blocks.length hS) rfl trivial (by decide) ?_
    rintro sv H' G' ⟨rfl, rfl⟩ hg
    refine ⟨Nat.le_of_ble_eq_true rfl, ?_⟩
    replace hl := hl.to hg
    clear hg
    generalize heb : eBlk f.regs f.blocks.length b = e at *
    repeat' ((fail_if_success with_reducible refine Stop.mk ?_);(conv=>whnf);with_reducible first|refine br_n (fun h=>?_) fun h=>?_|refine stop ?_)
    all_goals refine Stop.mk ?_
    all_goals try
      refine fin_id hE 0 rfl rfl rfl rfl ⟨congrArg (fun e => SV.v (.int .i64 e)) ?_, rfl⟩
      rw [hat (by assumption)]
    have he0 : e = 0 := by omega
    rw [hw2]
    refine tell_gc hE [0] rfl rfl ?_
    (conv => whnf)
    refine tell_here ⟨(k + 1, _), ⟨by show k + 1 ≤ _; omega, hl, eAtS_next hb hall (by rw [heb]; exact he0)⟩, by show f.blocks.length - (k + 1) < f.blocks.length - k; omega, rfl, rfl, ?_⟩
    refine ⟨?_⟩
    (conv => whnf)
    (repeat' (first | exact trivial | exact .inl rfl | exact .inr rfl | refine And.intro ?_ ?_))
  · have hkl : k = f.blocks.length := by omega
    subst hkl
    exact fin_id hE 0 rfl rfl rfl rfl ⟨by rw [eFn_zero hbase hall], rfl⟩
end Go.Proofs.YtchebkpcgglllaaGreat.Cu

namespace Go.Proofs.YtchebkpcgglllaaGreat.Cu
open Go Go.SX Go.Proofs.YtchebkpcgglllaaGreat.VT
set_option maxRecDepth 100000
set_option linter.unusedVariables false
set_option linter.unusedSimpArgs false
set_option maxHeartbeats 8000000 in
theorem check7E_fn (G : Gh) (A : Option Addr) (c : Nat) (f : Fn) (hl : kBlk.S G A c f.blocks) (hbl : f.blocks.length ≤ 1000000000) (htl : totB f.blocks ≤ 1000000000) :
    Ct Tryz.prog 53 [fnS A c f] [] G fun sv H' G' => sv = .v (.int .i64 (eFn f)) ∧ H' = [] ∧ G' = G := by
  have hef : eFn f = if f.args < 0 ∨ f.args > f.regs then 9 else if f.regs > 1048576 then 6 else if f.blocks.length = 0 then 14
    else if f.blocks.length > 1048576 ∨ totB f.blocks > 1048576 then 6 else first0 (eBlk f.regs f.blocks.length) f.blocks := rfl
  refine fn_of follows [(16, (.cons 0 [] (.cons 1 [] (.cons 2 [] (.cons 3 [] (.cons 4 [] (.cons 5 [] (.cons 6 [] (.cons 7 [1, 4, 6] (.cons 8 [] .nil))))))))))] Tryz.func53 rfl rfl fun E hE => ?_
  have hcap := hl.cap
  unfold fnS
  repeat' ((fail_if_success with_reducible refine Stop.mk ?_);(conv=>whnf);with_reducible first|refine br_t ?_|refine br_d (fun h=>?_) fun h=>?_|refine br_e (fun h=>?_) fun h=>?_|refine stop ?_)
  all_goals refine Stop.mk ?_
  all_goals try
    refine call_fn [] (code7_fn _ A c f hl hbl htl) rfl trivial (by decide) ?_
    rintro sv H' G' ⟨rfl, rfl, rfl⟩ -
    refine ⟨Nat.le_of_ble_eq_true rfl, ?_⟩
    repeat' ((fail_if_success with_reducible refine Stop.mk ?_);(conv=>whnf);with_reducible first|refine br_d (fun h=>?_) fun h=>?_|refine stop ?_)
    all_goals refine Stop.mk ?_
  all_goals try
    refine fin_id hE 0 rfl rfl rfl rfl ⟨congrArg (fun e => SV.v (.int .i64 e)) ?_, rfl, rfl⟩
    rw [hef]
    generalize first0 (eBlk f.regs f.blocks.length) f.blocks = z at *
    clear hef
    (repeat' split) <;> omega
  clear hef
  have hbase : SBase f := by unfold SBase; omega
  refine loop_vars follows [(16, (.cons 0 [] (.cons 1 [] (.cons 2 [] (.cons 3 [] (.cons 4 [] (.cons 5 [] (.cons 6 [] (.cons 7 [1, 4, 6] (.cons 8 [] .nil))))))))))] (α := Nat) (fun k => [(3, .v (.int .i64 k))]) (fun x => [.cells 25 [.v (.int .i64 f.args), .v (.int .i64 f.regs), .v (.slice A f.blocks.length c)]]) (fun x => _) (fun k => k ≤ f.blocks.length ∧ ∀ j, j < k → eAt (eBlk f.regs f.blocks.length) f.blocks j = 0) (fun k => f.blocks.length - k) 0
    ⟨Nat.zero_le _, fun j h => absurd h (Nat.not_lt_zero _)⟩ rfl rfl ?_ ?_
  ·
    refine ⟨?_⟩
    (conv => whnf)
    (repeat' (first | exact trivial | exact .inl rfl | exact .inr rfl | refine And.intro ?_ ?_))
  intro k hI
  obtain ⟨hk, hall⟩ := hI
  have hw2 : IntKind.i64.wrap ((k : Int) + 1) = ((k + 1 : Nat) : Int) := by rw [i64_in (by omega) (by omega)]; simp
  repeat' ((fail_if_success with_reducible refine Stop.mk ?_);(conv=>whnf);with_reducible first|refine br_d (fun h=>?_) fun h=>?_|refine stop ?_)
  all_goals refine Stop.mk ?_
  ·
    obtain ⟨_, hs_, hat_⟩ := hl.at (sz := 5) rfl
    refine ⟨⟨by omega, by omega⟩, _, hs_, fun ad had hadr => ?_⟩
    obtain ⟨b, cells, hb, hRb, hGb⟩ := hat_ k (by omega) ad (by first | exact had | (rw [Int.toNat_natCast] at had; exact had))
    clear had hat_ hs_
    obtain ⟨A', c', rfl, hS, hbt⟩ := kBlk_R hRb
    have hat := eFn_at hbase hb hall
    have hcap2 := hS.cap
    have hclb : b.code.length ≤ totB f.blocks := by
      have h1 := totB_take f.blocks k b hb
      have h2 := totB_le f.blocks (k + 1)
      omega
    repeat' ((fail_if_success with_reducible refine Stop.mk ?_);(conv=>whnf);with_reducible refine stop ?_)
    all_goals refine Stop.mk ?_
    refine ⟨_, rfl, hGb, ?_⟩
    repeat' ((fail_if_success with_reducible refine Stop.mk ?_);(conv=>whnf);with_reducible refine stop ?_)
    all_goals refine Stop.mk ?_
    refine loop_opq fun K1 hK1 => ?_
    refine loop_vars follows [(16, (.cons 0 [] (.cons 1 [] (.cons 2 [] (.cons 3 [] (.cons 4 [] (.cons 5 [] (.cons 6 [] (.cons 7 [1, 4, 6] (.cons 8 [] .nil))))))))))] (α := Nat) (fun k => [(5, .v (.int .i64 k))]) (fun x => [.cells 25 [.v (.int .i64 f.args), .v (.int .i64 f.regs), .v (.slice A f.blocks.length c)], .cells 60 [.v (.slice A' b.code.length c'), .v (.int .i64 b.term.kind), .v (.int .i64 b.term.a), .v (.int .i64 b.term.to_), .v (.int .i64 b.term.els)]]) (fun x => G') (fun j => j ≤ b.code.length ∧ ∀ i, i < j → eAt (eIns f.regs) b.code i = 0) (fun j => b.code.length - j) 0
      ⟨Nat.zero_le _, fun j h => absurd h (Nat.not_lt_zero _)⟩ rfl rfl ?_ ?_
    ·
      refine ⟨?_⟩
      (conv => whnf)
      (repeat' (first | exact trivial | exact .inl rfl | exact .inr rfl | refine And.intro ?_ ?_))
    intro j hJ
    obtain ⟨hj, hchk⟩ := hJ
    have hw3 : IntKind.i64.wrap ((j : Int) + 1) = ((j + 1 : Nat) : Int) := by rw [i64_in (by omega) (by omega)]; simp
    repeat' ((fail_if_success with_reducible refine Stop.mk ?_);(conv=>whnf);with_reducible first|refine br_d (fun h=>?_) fun h=>?_|refine drw (by kernel_rfl) ?_|refine stop ?_)
    all_goals refine Stop.mk ?_
    ·
      obtain ⟨_, hs_, hat_⟩ := hS.at (sz := 5) rfl
      refine ⟨⟨by omega, by omega⟩, _, hs_, fun ad had hadr => ?_⟩
      obtain ⟨i, cells, hi, hRi, hGi⟩ := hat_ j (by omega) ad (by first | exact had | (rw [Int.toNat_natCast] at had; exact had))
      clear had hat_ hs_
      obtain ⟨rfl, hiok⟩ := hRi
      repeat' ((fail_if_success with_reducible refine Stop.mk ?_);(conv=>whnf);with_reducible refine stop ?_)
      all_goals refine Stop.mk ?_
      refine ⟨_, rfl, hGi, ?_⟩
      repeat' ((fail_if_success with_reducible refine Stop.mk ?_);(conv=>whnf);with_reducible refine stop ?_)
      all_goals refine Stop.mk ?_
      have hco := eBlk_code (regs := f.regs) (n := f.blocks.length) hi hchk
      refine call_fn [] (r7InstrE_fn _ i f.regs) rfl trivial (by decide) ?_
      rintro sv H' G' ⟨rfl, rfl, rfl⟩ -
      refine ⟨Nat.le_of_ble_eq_true rfl, ?_⟩
      generalize hei : eIns f.regs i = e at *
      repeat' ((fail_if_success with_reducible refine Stop.mk ?_);(conv=>whnf);with_reducible first|refine br_n (fun h=>?_) fun h=>?_|refine stop ?_)
      all_goals refine Stop.mk ?_
      rotate_left
      · have hne : e ≠ 0 := by assumption
        refine Stop.mk (hK1 _ _ ?_)
        clear hK1
        repeat' ((fail_if_success with_reducible refine Stop.mk ?_);(conv=>whnf);with_reducible refine stop ?_)
        all_goals refine Stop.mk ?_
        refine fin_id hE 0 rfl rfl rfl rfl ⟨congrArg (fun e => SV.v (.int .i64 e)) ?_, rfl, rfl⟩
        have h1 := hco hne
        rw [hat (by rw [h1]; exact hne), h1]
      · have he0 : e = 0 := by assumption
        rw [hw3]
        refine tell_gc hE [0, 1] rfl rfl ?_
        (conv => whnf)
        refine tell_here ⟨j + 1, ⟨by omega, eAtS_next hi hchk (by rw [hei]; exact he0)⟩, by show b.code.length - (j + 1) < b.code.length - j; omega, rfl, rfl, ?_⟩
        refine ⟨?_⟩
        (conv => whnf)
        (repeat' (first | exact trivial | exact .inl rfl | exact .inr rfl | refine And.intro ?_ ?_))
    · have hjl : j = b.code.length := by omega
      subst hjl
      have hbt2 := eBlk_term (n := f.blocks.length) hchk
      refine Stop.mk (hK1 _ _ ?_)
      clear hK1
      repeat' ((fail_if_success with_reducible refine Stop.mk ?_);(conv=>whnf);with_reducible refine stop ?_)
      all_goals refine Stop.mk ?_
      refine call_fn [] (r7TermE_fn _ b.term f.regs f.blocks.length) rfl trivial (by decide) ?_
      rintro sv H' G' ⟨rfl, rfl, rfl⟩ -
      refine ⟨Nat.le_of_ble_eq_true rfl, ?_⟩
      generalize eTrm f.regs f.blocks.length b.term = e at *
      repeat' ((fail_if_success with_reducible refine Stop.mk ?_);(conv=>whnf);with_reducible first|refine br_n (fun h=>?_) fun h=>?_|refine stop ?_)
      all_goals refine Stop.mk ?_
      rotate_left
      · have hne : e ≠ 0 := by assumption
        refine fin_id hE 0 rfl rfl rfl rfl ⟨congrArg (fun e => SV.v (.int .i64 e)) ?_, rfl, rfl⟩
        rw [hat (by rw [hbt2]; exact hne), hbt2]
      · have he0 : e = 0 := by assumption
        rw [hw2]
        refine tell_gc hE [0] rfl rfl ?_
        (conv => whnf)
        refine tell_here ⟨k + 1, ⟨by omega, eAtS_next hb hall (by rw [hbt2]; exact he0)⟩, by show f.blocks.length - (k + 1) < f.blocks.length - k; omega, rfl, rfl, ?_⟩
        refine ⟨?_⟩
        (conv => whnf)
        (repeat' (first | exact trivial | exact .inl rfl | exact .inr rfl | refine And.intro ?_ ?_))
  · have hkl : k = f.blocks.length := by omega
    subst hkl
    exact fin_id hE 0 rfl rfl rfl rfl ⟨by rw [eFn_zero hbase hall], rfl, rfl⟩
end Go.Proofs.YtchebkpcgglllaaGreat.Cu
