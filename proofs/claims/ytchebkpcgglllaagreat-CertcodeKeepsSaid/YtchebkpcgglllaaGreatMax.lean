/- Max: Ma1, Ma2, Ma3 in one text. -/
import Derived.Test.YtchebkpcgglllaaGreatSoy
namespace Go.Proofs.YtchebkpcgglllaaGreat.Cu
open Go Go.SX Go.Proofs.YtchebkpcgglllaaGreat.VT
set_option maxRecDepth 100000
set_option linter.unusedVariables false
set_option linter.unusedSimpArgs false
set_option maxHeartbeats 8000000 in
theorem r8InstrE_fn (G : Gh) (i : Mac) (regs slots : Int) (hi : i.ok) :
    Ct Tryz.prog 106 [i.sv, .v (.int .i64 regs), .v (.int .i64 slots)] [] G fun sv H' G' => sv = .v (.int .i64 (eMac regs slots i)) ∧ H' = [] ∧ G' = G := by
  obtain ⟨_, _, _, _, _, hi6, hi7⟩ := hi
  have hid1 : inRange i.dst regs slots → i.dst.tmod 2 = i.dst % 2 := fun h => Int.tmod_eq_emod_of_nonneg h.1
  have hid2 : inRange i.src regs slots → i.src.tmod 2 = i.src % 2 := fun h => Int.tmod_eq_emod_of_nonneg h.1
  refine fn_of follows [] Tryz.func106 rfl rfl fun E hE => ?_
  repeat' ((fail_if_success with_reducible refine Stop.mk ?_);(conv=>whnf);with_reducible first|refine br_t ?_|refine br_d (fun h=>?_) fun h=>?_|refine br_e (fun h=>?_) fun h=>?_|refine stop ?_)
  all_goals refine Stop.mk ?_
  all_goals try
    refine call_fn [] (rinRange_fn _ i.dst regs slots hi6) rfl trivial (by decide) ?_
    rintro sv H' G' ⟨rfl, rfl, rfl⟩ -
    refine ⟨Nat.le_of_ble_eq_true rfl, ?_⟩
    repeat' ((fail_if_success with_reducible refine Stop.mk ?_);(conv=>whnf);with_reducible first|refine br_t ?_|refine br_not ?_|refine br_d (fun h=>?_) fun h=>?_|refine stop ?_)
    all_goals refine Stop.mk ?_
  all_goals try
    refine call_fn [] (rinRange_fn _ i.src regs slots hi7) rfl trivial (by decide) ?_
    rintro sv H' G' ⟨rfl, rfl, rfl⟩ -
    refine ⟨Nat.le_of_ble_eq_true rfl, ?_⟩
    repeat' ((fail_if_success with_reducible refine Stop.mk ?_);(conv=>whnf);with_reducible first|refine br_t ?_|refine br_f ?_|refine br_not ?_|refine br_d (fun h=>?_) fun h=>?_|refine br_e (fun h=>?_) fun h=>?_|refine br_n (fun h=>?_) fun h=>?_|refine stop ?_)
    all_goals refine Stop.mk ?_
  all_goals try
    refine call_fn [] (r7InstrE_fn _ ⟨i.op, i.d, i.a, i.b, i.imm⟩ regs) rfl trivial (by decide) ?_
    rintro sv H' G' ⟨rfl, rfl, rfl⟩ -
    refine ⟨Nat.le_of_ble_eq_true rfl, ?_⟩
    repeat' ((fail_if_success with_reducible refine Stop.mk ?_);(conv=>whnf);with_reducible first|refine br_t ?_|refine br_f ?_|refine br_e (fun h=>?_) fun h=>?_|refine br_n (fun h=>?_) fun h=>?_|refine stop ?_)
    all_goals refine Stop.mk ?_
  all_goals
    refine fin_id hE 0 rfl rfl rfl rfl ⟨congrArg (fun e => SV.v (.int .i64 e)) ?_, rfl, rfl⟩
    unfold eMac known Mac.ins'
    generalize eIns regs ⟨i.op, i.d, i.a, i.b, i.imm⟩ = e at *
    by_cases hR1 : inRange i.dst regs slots <;> by_cases hR2 : inRange i.src regs slots
  all_goals try (exfalso; contradiction)
  all_goals
    simp only [hR1, hR2, true_and, false_and, and_false, if_false, true_implies, false_implies, and_true] at hid1 hid2 ⊢
    (repeat' split) <;> omega
end Go.Proofs.YtchebkpcgglllaaGreat.Cu

namespace Go.Proofs.YtchebkpcgglllaaGreat.Cu
open Go Go.SX Go.Proofs.YtchebkpcgglllaaGreat.VT
set_option maxRecDepth 100000
set_option linter.unusedVariables false
set_option linter.unusedSimpArgs false
def chkS (f g : Nat) : SV := .agg [.f (.func f) [] [], .f (.func g) [] []]
theorem moves_fn (G : Gh) : Ct Tryz.prog 159 [] [] G fun sv H' G' => sv = chkS 164 165 ∧ H' = [] ∧ G' = G := by
  refine fn_of follows [] Tryz.func159 rfl rfl fun E hE => ?_
  repeat' ((fail_if_success with_reducible refine Stop.mk ?_);(conv=>whnf);with_reducible refine stop ?_)
  all_goals refine Stop.mk ?_
  exact fin_id hE 0 rfl rfl rfl rfl ⟨rfl, rfl, rfl⟩
theorem others_fn (G : Gh) : Ct Tryz.prog 158 [] [] G fun sv H' G' => sv = chkS 162 163 ∧ H' = [] ∧ G' = G := by
  refine fn_of follows [] Tryz.func158 rfl rfl fun E hE => ?_
  repeat' ((fail_if_success with_reducible refine Stop.mk ?_);(conv=>whnf);with_reducible refine stop ?_)
  all_goals refine Stop.mk ?_
  exact fin_id hE 0 rfl rfl rfl rfl ⟨rfl, rfl, rfl⟩
def eMv1 (regs slots : Int) (i : Mac) : Int := if inRange i.dst regs slots ∧ inRange i.src regs slots ∧ ¬ (i.dst % 2 = 1 ∧ i.src % 2 = 1) then 0 else 10
theorem moves1_fn (G : Gh) (i : Mac) (regs slots : Int) (hi : i.ok) :
    Ct Tryz.prog 164 [i.sv, .v (.int .i64 regs), .v (.int .i64 slots)] [] G fun sv H' G' => sv = .v (.int .i64 (eMv1 regs slots i)) ∧ H' = [] := by
  obtain ⟨_, _, _, _, _, hi6, hi7⟩ := hi
  have hid1 : inRange i.dst regs slots → i.dst.tmod 2 = i.dst % 2 := fun h => Int.tmod_eq_emod_of_nonneg h.1
  have hid2 : inRange i.src regs slots → i.src.tmod 2 = i.src % 2 := fun h => Int.tmod_eq_emod_of_nonneg h.1
  refine fn_of follows [] Tryz.func164 rfl rfl fun E hE => ?_
  repeat' ((fail_if_success with_reducible refine Stop.mk ?_);(conv=>whnf);with_reducible refine stop ?_)
  all_goals refine Stop.mk ?_
  refine call_fn [] (isSlot_fn _ i.dst) rfl trivial (by decide) ?_
  rintro sv H' G' ⟨rfl, rfl, rfl⟩ -
  refine ⟨Nat.le_of_ble_eq_true rfl, ?_⟩
  repeat' ((fail_if_success with_reducible refine Stop.mk ?_);(conv=>whnf);with_reducible first|refine br_f ?_|refine br_d (fun h=>?_) fun h=>?_|refine stop ?_)
  all_goals refine Stop.mk ?_
  all_goals try
    refine call_fn [] (isSlot_fn _ i.src) rfl trivial (by decide) ?_
    rintro sv H' G' ⟨rfl, rfl, rfl⟩ -
    refine ⟨Nat.le_of_ble_eq_true rfl, ?_⟩
    repeat' ((fail_if_success with_reducible refine Stop.mk ?_);(conv=>whnf);with_reducible first|refine br_t ?_|refine br_d (fun h=>?_) fun h=>?_|refine stop ?_)
    all_goals refine Stop.mk ?_
  all_goals try
    refine call_fn [] (inRange_fn _ i.dst regs slots hi6) rfl trivial (by decide) ?_
    rintro sv H' G' ⟨rfl, rfl, rfl⟩ -
    refine ⟨Nat.le_of_ble_eq_true rfl, ?_⟩
    repeat' ((fail_if_success with_reducible refine Stop.mk ?_);(conv=>whnf);with_reducible first|refine br_t ?_|refine br_not ?_|refine br_d (fun h=>?_) fun h=>?_|refine stop ?_)
    all_goals refine Stop.mk ?_
  all_goals try
    refine call_fn [] (inRange_fn _ i.src regs slots hi7) rfl trivial (by decide) ?_
    rintro sv H' G' ⟨rfl, rfl, rfl⟩ -
    refine ⟨Nat.le_of_ble_eq_true rfl, ?_⟩
    repeat' ((fail_if_success with_reducible refine Stop.mk ?_);(conv=>whnf);with_reducible first|refine br_not ?_|refine br_d (fun h=>?_) fun h=>?_|refine stop ?_)
    all_goals refine Stop.mk ?_
  all_goals
    refine fin_id hE 0 rfl rfl rfl rfl ⟨congrArg (fun e => SV.v (.int .i64 e)) ?_, rfl⟩
    unfold eMv1 isSlot at *
    by_cases hR1 : inRange i.dst regs slots <;> by_cases hR2 : inRange i.src regs slots
  all_goals try (exfalso; contradiction)
  all_goals
    simp only [hR1, hR2, true_and, false_and, and_false, if_false, true_implies, false_implies, and_true, decide_eq_true_eq, decide_eq_false_iff_not] at *
    try ((repeat' split) <;> omega)
theorem moves2_fn (G : Gh) (i : Mac) :
    Ct Tryz.prog 165 [i.sv] [] G fun sv H' G' => sv = .v (.bool (decide (i.d = 0 ∧ i.a = 0 ∧ i.b = 0 ∧ i.imm = 0))) ∧ H' = [] := by
  refine fn_of follows [] Tryz.func165 rfl rfl fun E hE => ?_
  repeat' ((fail_if_success with_reducible refine Stop.mk ?_);(conv=>whnf);with_reducible first|refine br_f ?_|refine br_e (fun h=>?_) fun h=>?_|refine stop ?_)
  all_goals refine Stop.mk ?_
  all_goals refine fin_id hE 0 rfl rfl rfl rfl ⟨congrArg (fun b => SV.v (.bool b)) ?_, rfl⟩
  all_goals
    refine bdec ?_
    simp only [decide_eq_true_iff, beq_iff_eq, bne_iff_ne, ne_eq, Bool.false_eq_true, false_iff, true_iff] at *
    try omega
theorem others1_fn (G : Gh) (i : Mac) (regs slots : Int) :
    Ct Tryz.prog 162 [i.sv, .v (.int .i64 regs), .v (.int .i64 slots)] [] G fun sv H' G' => sv = .v (.int .i64 (eIns regs i.ins')) ∧ H' = [] := by
  refine fn_of follows [] Tryz.func162 rfl rfl fun E hE => ?_
  repeat' ((fail_if_success with_reducible refine Stop.mk ?_);(conv=>whnf);with_reducible refine stop ?_)
  all_goals refine Stop.mk ?_
  refine call_fn [] (srcInstr_fn _ ⟨i.op, i.d, i.a, i.b, i.imm⟩ regs) rfl trivial (by decide) ?_
  rintro sv H' G' ⟨rfl, rfl⟩ -
  refine ⟨Nat.le_of_ble_eq_true rfl, ?_⟩
  repeat' ((fail_if_success with_reducible refine Stop.mk ?_);(conv=>whnf);with_reducible refine stop ?_)
  all_goals refine Stop.mk ?_
  exact fin_id hE 0 rfl rfl rfl rfl ⟨rfl, rfl⟩
theorem others2_fn (G : Gh) (i : Mac) :
    Ct Tryz.prog 163 [i.sv] [] G fun sv H' G' => sv = .v (.bool (decide (i.dst = 0 ∧ i.src = 0))) ∧ H' = [] := by
  refine fn_of follows [] Tryz.func163 rfl rfl fun E hE => ?_
  repeat' ((fail_if_success with_reducible refine Stop.mk ?_);(conv=>whnf);with_reducible first|refine br_e (fun h=>?_) fun h=>?_|refine stop ?_)
  all_goals refine Stop.mk ?_
  all_goals refine fin_id hE 0 rfl rfl rfl rfl ⟨congrArg (fun b => SV.v (.bool b)) ?_, rfl⟩
  all_goals
    refine bdec ?_
    simp only [decide_eq_true_iff, beq_iff_eq, bne_iff_ne, ne_eq, Bool.false_eq_true, false_iff, true_iff] at *
    try omega
set_option maxHeartbeats 8000000 in
theorem macInstr_fn (G : Gh) (i : Mac) (regs slots : Int) (hi : i.ok) :
    Ct Tryz.prog 152 [i.sv, .v (.int .i64 regs), .v (.int .i64 slots)] [] G fun sv H' G' => sv = .v (.int .i64 (eMac regs slots i)) ∧ H' = [] := by
  refine fn_of follows [] Tryz.func152 rfl rfl fun E hE => ?_
  repeat' ((fail_if_success with_reducible refine Stop.mk ?_);(conv=>whnf);with_reducible refine stop ?_)
  all_goals refine Stop.mk ?_
  refine call_fn [] (machine_fn _ i.op) rfl trivial (by decide) ?_
  rintro sv H' G' ⟨rfl, rfl, rfl⟩ -
  refine ⟨Nat.le_of_ble_eq_true rfl, ?_⟩
  repeat' ((fail_if_success with_reducible refine Stop.mk ?_);(conv=>whnf);with_reducible first|refine br_not ?_|refine br_d (fun h=>?_) fun h=>?_|refine stop ?_)
  all_goals refine Stop.mk ?_
  all_goals try
    refine fin_id hE 0 rfl rfl rfl rfl ⟨congrArg (fun e => SV.v (.int .i64 e)) ?_, rfl⟩
    unfold eMac
    rw [if_neg (by assumption)]
  have hk : known i.op ∧ i.op ≠ 2 := by assumption
  refine call_fn [] (others_fn _) rfl trivial (by decide) ?_
  rintro sv H' G' ⟨rfl, rfl, rfl⟩ -
  refine ⟨Nat.le_of_ble_eq_true rfl, ?_⟩
  repeat' ((fail_if_success with_reducible refine Stop.mk ?_);(conv=>whnf);with_reducible first|refine br_e (fun h=>?_) fun h=>?_|refine stop ?_)
  all_goals refine Stop.mk ?_
  all_goals try
    refine call_fn [] (moves_fn _) rfl trivial (by decide) ?_
    rintro sv H' G' ⟨rfl, rfl, rfl⟩ -
    refine ⟨Nat.le_of_ble_eq_true rfl, ?_⟩
    repeat' ((fail_if_success with_reducible refine Stop.mk ?_);(conv=>whnf);with_reducible refine stop ?_)
    all_goals refine Stop.mk ?_
  · have h18 : i.op = 18 := by assumption
    have he : eMac regs slots i = if eMv1 regs slots i ≠ 0 then eMv1 regs slots i else if i.d = 0 ∧ i.a = 0 ∧ i.b = 0 ∧ i.imm = 0 then 0 else 12 := by
      unfold eMac eMv1
      rw [if_pos hk, if_pos h18]
      by_cases hc : inRange i.dst regs slots ∧ inRange i.src regs slots ∧ ¬ (i.dst % 2 = 1 ∧ i.src % 2 = 1)
      · rw [if_pos hc, if_pos hc]; rfl
      · rw [if_neg hc, if_neg hc]; rfl
    refine call_fn [] (moves1_fn _ i regs slots hi) rfl trivial (by decide) ?_
    rintro sv H' G' ⟨rfl, rfl⟩ -
    refine ⟨Nat.le_of_ble_eq_true rfl, ?_⟩
    generalize eMv1 regs slots i = e at *
    repeat' ((fail_if_success with_reducible refine Stop.mk ?_);(conv=>whnf);with_reducible first|refine br_n (fun h=>?_) fun h=>?_|refine stop ?_)
    all_goals refine Stop.mk ?_
    all_goals try
      refine fin_id hE 0 rfl rfl rfl rfl ⟨congrArg (fun e => SV.v (.int .i64 e)) ?_, rfl⟩
      rw [he, if_pos (by assumption)]
    rw [if_neg (by omega)] at he
    refine call_fn [] (moves2_fn _ i) rfl trivial (by decide) ?_
    rintro sv H' G' ⟨rfl, rfl⟩ -
    refine ⟨Nat.le_of_ble_eq_true rfl, ?_⟩
    repeat' ((fail_if_success with_reducible refine Stop.mk ?_);(conv=>whnf);with_reducible first|refine br_not ?_|refine br_d (fun h=>?_) fun h=>?_|refine stop ?_)
    all_goals refine Stop.mk ?_
    all_goals
      refine fin_id hE 0 rfl rfl rfl rfl ⟨congrArg (fun e => SV.v (.int .i64 e)) ?_, rfl⟩
      first
        | rw [he, if_pos (by assumption)]
        | rw [he, if_neg (by assumption)]
  · have h18 : i.op ≠ 18 := by assumption
    have he : eMac regs slots i = if eIns regs i.ins' ≠ 0 then eIns regs i.ins' else if i.dst = 0 ∧ i.src = 0 then 0 else 12 := by
      unfold eMac
      rw [if_pos hk, if_neg h18]
    refine call_fn [] (others1_fn _ i regs slots) rfl trivial (by decide) ?_
    rintro sv H' G' ⟨rfl, rfl⟩ -
    refine ⟨Nat.le_of_ble_eq_true rfl, ?_⟩
    generalize eIns regs i.ins' = e at *
    repeat' ((fail_if_success with_reducible refine Stop.mk ?_);(conv=>whnf);with_reducible first|refine br_n (fun h=>?_) fun h=>?_|refine stop ?_)
    all_goals refine Stop.mk ?_
    all_goals try
      refine fin_id hE 0 rfl rfl rfl rfl ⟨congrArg (fun e => SV.v (.int .i64 e)) ?_, rfl⟩
      rw [he, if_pos (by assumption)]
    rw [if_neg (by omega)] at he
    refine call_fn [] (others2_fn _ i) rfl trivial (by decide) ?_
    rintro sv H' G' ⟨rfl, rfl⟩ -
    refine ⟨Nat.le_of_ble_eq_true rfl, ?_⟩
    repeat' ((fail_if_success with_reducible refine Stop.mk ?_);(conv=>whnf);with_reducible first|refine br_not ?_|refine br_d (fun h=>?_) fun h=>?_|refine stop ?_)
    all_goals refine Stop.mk ?_
    all_goals
      refine fin_id hE 0 rfl rfl rfl rfl ⟨congrArg (fun e => SV.v (.int .i64 e)) ?_, rfl⟩
      first
        | rw [he, if_pos (by assumption)]
        | rw [he, if_neg (by assumption)]
end Go.Proofs.YtchebkpcgglllaaGreat.Cu

namespace Go.Proofs.YtchebkpcgglllaaGreat.Cu
open Go Go.SX Go.Proofs.YtchebkpcgglllaaGreat.VT
set_option maxRecDepth 100000
set_option linter.unusedVariables false
set_option linter.unusedSimpArgs false
/-- n moves one after the other, from i on. -/
def runAt (l : List Mac) (i n : Nat) : Prop := i + n ≤ l.length ∧ ∀ (j : Nat) (x : Mac), i ≤ j → j < i + n → l[j]? = some x → x.op = 18
def hasRun (l : List Mac) (n : Nat) : Prop := ∃ i, runAt l i n
/-- The length of the longest run. -/
def Longest (l : List Mac) (r : Int) : Prop := 0 ≤ r ∧ ∀ n : Nat, (n : Int) ≤ r ↔ hasRun l n
theorem Longest.uniq {l : List Mac} {r s : Int} (h : Longest l r) (h' : Longest l s) : r = s := by
  have h1 := (h.2 r.toNat).1 (by have := h.1; omega)
  have h2 := (h'.2 r.toNat).2 h1
  have h3 := (h'.2 s.toNat).1 (by have := h'.1; omega)
  have h4 := (h.2 s.toNat).2 h3
  have := h.1
  have := h'.1
  omega
theorem runAt.less {l : List Mac} {i n m : Nat} (h : runAt l i n) (hm : m ≤ n) : runAt l i m := ⟨by have := h.1; omega, fun j x h1 h2 hx => h.2 j x h1 (by omega) hx⟩
set_option maxHeartbeats 8000000 in
theorem rMovesE_fn (G : Gh) (A : Option Addr) (c : Nat) (l : List Mac) (hl : kMac.S G A c l) :
    Ct Tryz.prog 107 [.v (.slice A l.length c)] [] G fun sv H' G' => ∃ r : Int, sv = .v (.int .i64 r) ∧ Longest l r ∧ H' = [] ∧ G' = G := by
  refine fn_of follows [] Tryz.func107 rfl rfl fun E hE => ?_
  have hcap := hl.cap
  repeat' ((fail_if_success with_reducible refine Stop.mk ?_);(conv=>whnf);with_reducible refine stop ?_)
  all_goals refine Stop.mk ?_
  refine loop_vars follows [] (α := Nat × Nat) (fun x => [(3, .v (.int .i64 x.2)), (4, .v (.int .i64 x.1))]) (fun x => []) (fun x => G)
    (fun x => x.1 ≤ l.length ∧ x.2 ≤ l.length ∧ hasRun l x.2 ∧ ∀ i n, i < x.1 → runAt l i n → n ≤ x.2) (fun x => l.length - x.1) (0, 0)
    ⟨Nat.zero_le _, Nat.zero_le _, ⟨0, by simp, fun j x _ h => by omega⟩, fun i n h => absurd h (Nat.not_lt_zero _)⟩ rfl rfl ?_ ?_
  ·
    refine ⟨?_⟩
    (conv => whnf)
    (repeat' (first | exact trivial | exact .inl rfl | exact .inr rfl | refine And.intro ?_ ?_))
  rintro ⟨i, most⟩ ⟨hi, hm, hall, hsome⟩
  dsimp only at hi hm hall hsome ⊢
  repeat' ((fail_if_success with_reducible refine Stop.mk ?_);(conv=>whnf);with_reducible first|refine br_d (fun h=>?_) fun h=>?_|refine stop ?_)
  all_goals refine Stop.mk ?_
  · have hil : i < l.length := by omega
    have hw2 : IntKind.i64.wrap ((i : Int) + 1) = ((i + 1 : Nat) : Int) := by rw [i64_in (by omega) (by omega)]; simp
    refine loop_opq fun K1 hK1 => ?_
    refine loop_vars follows [] (α := Nat) (fun n => [(5, .v (.int .i64 n))]) (fun x => []) (fun x => G) (fun n => runAt l i n) (fun n => l.length - n) 0
      ⟨by omega, fun j y h1 h2 => by omega⟩ rfl rfl ?_ ?_
    ·
      refine ⟨?_⟩
      (conv => whnf)
      (repeat' (first | exact trivial | exact .inl rfl | exact .inr rfl | refine And.intro ?_ ?_))
    intro n hN
    have hn := hN.1
    have hw4 : IntKind.i64.wrap ((i : Int) + (n : Int)) = ((i + n : Nat) : Int) := by rw [i64_in (by omega) (by omega)]; simp
    have hdone : (i + n = l.length ∨ ∃ y : Mac, l[i + n]? = some y ∧ y.op ≠ 18) → ∀ m, runAt l i m → m ≤ n := by
      intro hd m hm
      rcases hd with hd | ⟨y, hy, hne⟩
      · have := hm.1; omega
      · by_cases hmn : m ≤ n
        · exact hmn
        · exact absurd (hm.2 _ y (by omega) (by omega) hy) hne
    have hstep : ∀ b : Nat, (∀ m, runAt l i m → m ≤ n) → most ≤ b → n ≤ b → ∀ i' n', i' < i + 1 → runAt l i' n' → n' ≤ b := by
      intro b h1 h2 h3 i' n' h4 h5
      rcases Nat.lt_or_ge i' i with h6 | h6
      · have := hsome i' n' h6 h5; omega
      · have : i' = i := by omega
        subst this
        have := h1 n' h5; omega
    repeat' ((fail_if_success with_reducible refine Stop.mk ?_);(conv=>whnf);with_reducible first|refine br_f ?_|refine br_d (fun h=>?_) fun h=>?_|refine stop ?_)
    all_goals refine Stop.mk ?_
    all_goals try rw [hw4] at h ⊢
    · have hw3 : IntKind.i64.wrap ((n : Int) + 1) = ((n + 1 : Nat) : Int) := by rw [i64_in (by omega) (by omega)]; simp
      obtain ⟨z, hz⟩ : ∃ z, z = i + n := ⟨_, rfl⟩
      rw [← hz]
      obtain ⟨_, hs_, hat_⟩ := hl.at (sz := 7) rfl
      refine ⟨⟨by omega, by omega⟩, _, hs_, fun ad had hadr => ?_⟩
      obtain ⟨y, cells, hy, hRy, hGy⟩ := hat_ z (by omega) ad (by first | exact had | (rw [Int.toNat_natCast] at had; exact had))
      clear had hat_ hs_
      obtain ⟨rfl, hyok⟩ := hRy
      repeat' ((fail_if_success with_reducible refine Stop.mk ?_);(conv=>whnf);with_reducible refine stop ?_)
      all_goals refine Stop.mk ?_
      refine ⟨_, hGy 0 _ rfl, ?_⟩
      repeat' ((fail_if_success with_reducible refine Stop.mk ?_);(conv=>whnf);with_reducible first|refine br_e (fun h=>?_) fun h=>?_|refine stop ?_)
      all_goals refine Stop.mk ?_
      · have h18 : y.op = 18 := by assumption
        rw [hw3]
        refine tell_here ⟨n + 1, ⟨by omega, fun j x h1 h2 hx => ?_⟩, by show l.length - (n + 1) < l.length - n; omega, rfl, rfl, ?_⟩
        · rcases Nat.lt_or_ge j (i + n) with h3 | h3
          · exact hN.2 j x h1 h3 hx
          · have h4 : j = z := by omega
            subst h4
            rw [hy] at hx
            simp at hx; subst hx; exact h18
        ·
          refine ⟨?_⟩
          (conv => whnf)
          (repeat' (first | exact trivial | exact .inl rfl | exact .inr rfl | refine And.intro ?_ ?_))
      · have hd := hdone (.inr ⟨y, by rw [← hz]; exact hy, by assumption⟩)
        refine Stop.mk (hK1 _ _ ?_)
        clear hK1
        repeat' ((fail_if_success with_reducible refine Stop.mk ?_);(conv=>whnf);with_reducible first|refine br_d (fun h=>?_) fun h=>?_|refine stop ?_)
        all_goals refine Stop.mk ?_
        all_goals rw [hw2]
        · refine tell_here ⟨(i + 1, n), ⟨by show i + 1 ≤ _; omega, by show n ≤ _; omega, ⟨i, hN⟩, hstep n hd (by omega) (Nat.le_refl _)⟩, by show l.length - (i + 1) < l.length - i; omega, rfl, rfl, ?_⟩
          refine ⟨?_⟩
          (conv => whnf)
          (repeat' (first | exact trivial | exact .inl rfl | exact .inr rfl | refine And.intro ?_ ?_))
        · refine tell_here ⟨(i + 1, most), ⟨by show i + 1 ≤ _; omega, hm, hall, hstep most hd (Nat.le_refl _) (by omega)⟩, by show l.length - (i + 1) < l.length - i; omega, rfl, rfl, ?_⟩
          refine ⟨?_⟩
          (conv => whnf)
          (repeat' (first | exact trivial | exact .inl rfl | exact .inr rfl | refine And.intro ?_ ?_))
    · have hd := hdone (.inl (by omega))
      refine Stop.mk (hK1 _ _ ?_)
      clear hK1
      repeat' ((fail_if_success with_reducible refine Stop.mk ?_);(conv=>whnf);with_reducible first|refine br_d (fun h=>?_) fun h=>?_|refine stop ?_)
      all_goals refine Stop.mk ?_
      all_goals rw [hw2]
      · refine tell_here ⟨(i + 1, n), ⟨by show i + 1 ≤ _; omega, by show n ≤ _; omega, ⟨i, hN⟩, hstep n hd (by omega) (Nat.le_refl _)⟩, by show l.length - (i + 1) < l.length - i; omega, rfl, rfl, ?_⟩
        refine ⟨?_⟩
        (conv => whnf)
        (repeat' (first | exact trivial | exact .inl rfl | exact .inr rfl | refine And.intro ?_ ?_))
      · refine tell_here ⟨(i + 1, most), ⟨by show i + 1 ≤ _; omega, hm, hall, hstep most hd (Nat.le_refl _) (by omega)⟩, by show l.length - (i + 1) < l.length - i; omega, rfl, rfl, ?_⟩
        refine ⟨?_⟩
        (conv => whnf)
        (repeat' (first | exact trivial | exact .inl rfl | exact .inr rfl | refine And.intro ?_ ?_))
  · have hkl : i = l.length := by omega
    subst hkl
    refine fin_id hE 0 rfl rfl rfl rfl ⟨_, rfl, ⟨by omega, fun n => ?_⟩, rfl, rfl⟩
    constructor
    · intro h9
      obtain ⟨i, hi⟩ := hall
      exact ⟨i, hi.less (by omega)⟩
    · rintro ⟨i, hi⟩
      cases n with
      | zero => omega
      | succ n =>
        have := hsome i (n + 1) (by have := hi.1; omega) hi
        omega
theorem run_runAt (l : List Mac) (k n : Nat) (hk : k ≤ l.length) (hn : n ≤ k) : (n : Int) ≤ runK l k ↔ runAt l (k - n) n := by
  rw [runK_iff l k n hk hn]
  unfold runAt
  rw [show k - n + n = k by omega]
  exact ⟨fun h => ⟨hk, h⟩, fun h => h.2⟩
theorem runK_le (l : List Mac) : ∀ k, runK l k ≤ k
  | 0 => by simp [runK, foldS]
  | k + 1 => by
    cases h : l[k]? with
    | none =>
      have e : l.take (k + 1) = l.take k := by rw [List.take_add_one, h]; simp
      have := runK_le l k
      unfold runK at *
      rw [e]; omega
    | some x =>
      have := runK_le l k
      have := runK_nonneg l k
      rw [runK_next l k x h]
      unfold nxR
      split <;> omega
end Go.Proofs.YtchebkpcgglllaaGreat.Cu
