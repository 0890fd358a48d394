/- The reference's instructions: what is read. -/
import Derived.Test.YtkhajngpcgmpnaaIn4e
import Derived.Test.YtkhajngpcgmpnaaIny
import Derived.Test.YtkhajngpcgmpnaaNux
namespace Go.Proofs.Ytkhajngpcgmpnaa.Cu
open Go Go.SX Go.Proofs.Ytkhajngpcgmpnaa.VT
set_option maxRecDepth 100000
set_option linter.unusedVariables false
set_option linter.unusedSimpArgs false

/-- The reference's first byte. -/
def goodR (most not_ : Int) (op : Int) : Bool := decide (1 ≤ op ∧ op ≤ most ∧ op ≠ not_)
set_option maxHeartbeats 8000000 in
theorem rfirst_fn {G : Gh} {A : Option Addr} {c : Nat} {p r : Ps} (most not_ why : Int) (h : RIn G A c p r) (hw0 : why ≠ 0) :
    Ct Try.prog 88 [inS A c r, .v (.int .i64 most), .v (.int .i64 not_), .v (.int .i64 why)] [] G fun sv H' G' =>
      ∃ v, RPost G (.v (.int .i64 v)) (sFirst (goodR most not_) why p).2 sv H' G' ∧ ((sFirst (goodR most not_) why p).2.2 = 0 → v = (sFirst (goodR most not_) why p).1) ∧ ((sFirst (goodR most not_) why p).2.2 ≠ 0 → v = 0) := by
  obtain ⟨hs, hbb, hl, he, hr⟩ := h
  have hcap := hs.cap
  have htop := hs.top
  refine fn_of follows [(2, (.cons 0 [] (.cons 1 [] (.cons 2 [0] .nil)))), (8, (.cons 0 [] (.cons 1 [] (.cons 2 [] (.cons 3 [] (.cons 4 [] (.cons 5 [] (.cons 6 [2] .nil))))))))] Try.func88 rfl rfl fun E hE => ?_
  repeat' ((fail_if_success with_reducible refine Stop.mk ?_); (conv => whnf); with_reducible first | refine br_t ?_ | refine br_f ?_ | refine br_nn ?_ | refine br_ns ?_ | refine br_not ?_ | refine br_d (fun h => ?_) (fun h => ?_) | refine br_e (fun h => ?_) (fun h => ?_) | refine br_n (fun h => ?_) (fun h => ?_) | refine drw (by kernel_rfl) ?_ | refine chk (by kernel_rfl) ?_ | refine stop ?_)
  all_goals refine Stop.mk ?_
  · have h0 : r.2 = 0 := by assumption
    have hp0 : p.2 = 0 := by rw [← he]; exact h0
    have hl0 : r.1 = [] := List.eq_nil_of_length_eq_zero (by omega)
    have hsb : sByte p = (0, ([], 1)) := by unfold sByte; rw [if_neg (by simpa using hp0), ← hr hp0, hl0]
    have hsf : (sFirst (goodR most not_) why p).2.2 = 1 := by
      unfold sFirst; rw [hsb]; simp only; split
      · rfl
      · unfold sFail failE; simp
    refine fin_id hE 0 rfl rfl rfl rfl ⟨0, ⟨none, 0, ([], 1), rfl, RIn.err hsf (by decide), rfl, rfl⟩, fun h1 => ?_, fun _ => rfl⟩
    rw [hsf] at h1; simp at h1
  · have h0 : r.2 = 0 := by assumption
    have hp0 : p.2 = 0 := by rw [← he]; exact h0
    obtain ⟨l, e⟩ := p
    obtain ⟨l2, e2⟩ := r
    dsimp only at *
    subst he
    subst h0
    obtain rfl := hr rfl
    cases l2 with
    | nil => exact absurd rfl (by assumption)
    | cons x l =>
      have hxr := hbb x (by simp)
      have hsb : sByte (x :: l, 0) = (x, (l, 0)) := by unfold sByte; simp
      refine ⟨⟨by omega, by simp only [List.length_cons]; omega⟩, _, hs, fun ad had => ?_⟩
      repeat' ((fail_if_success with_reducible refine Stop.mk ?_); (conv => whnf); with_reducible first | refine br_t ?_ | refine br_f ?_ | refine br_nn ?_ | refine br_ns ?_ | refine br_not ?_ | refine br_d (fun h => ?_) (fun h => ?_) | refine br_e (fun h => ?_) (fun h => ?_) | refine br_n (fun h => ?_) (fun h => ?_) | refine drw (by kernel_rfl) ?_ | refine chk (by kernel_rfl) ?_ | refine stop ?_)
      all_goals refine Stop.mk ?_
      refine ⟨_, el1 had (by simp), ?_⟩
      simp only [Int.toNat_zero, List.getD_cons_zero]
      have hwx : IntKind.i64.wrap x = x := i64_in (by omega) (by omega)
      have hbad : ¬ (1 ≤ x ∧ x ≤ most ∧ x ≠ not_) → (sFirst (goodR most not_) why (x :: l, 0)).2 = (l, why) := by
        intro hn
        unfold sFirst goodR; rw [hsb]; simp only [decide_eq_true_iff]; rw [if_neg hn]; unfold sFail failE; simp
      have hgood : (1 ≤ x ∧ x ≤ most ∧ x ≠ not_) → sFirst (goodR most not_) why (x :: l, 0) = (x, (l, 0)) := by
        intro hn
        unfold sFirst goodR; rw [hsb]; simp only [decide_eq_true_iff]; rw [if_pos hn]
      repeat' ((fail_if_success with_reducible refine Stop.mk ?_); (conv => whnf); first | with_reducible refine br_t ?_ | with_reducible refine br_f ?_ | with_reducible refine br_nn ?_ | with_reducible refine br_ns ?_ | with_reducible refine br_not ?_ | ((with_reducible refine br_d (fun h => ?_) (fun h => ?_)) <;> try (exfalso; omega)) | ((with_reducible refine br_e (fun h => ?_) (fun h => ?_)) <;> try (exfalso; omega)) | ((with_reducible refine br_n (fun h => ?_) (fun h => ?_)) <;> try (exfalso; omega)) | with_reducible refine drw (by kernel_rfl) ?_ | with_reducible refine chk (by kernel_rfl) ?_ | with_reducible refine stop ?_)
      all_goals refine Stop.mk ?_
      all_goals try
        (have hbad := hbad (by omega)
         refine fin_id hE 0 rfl rfl rfl rfl ⟨0, ⟨none, 0, ([], why), rfl, RIn.err (by rw [hbad]) hw0, rfl, rfl⟩, fun h1 => ?_, fun _ => rfl⟩
         rw [hbad] at h1; exact absurd h1 hw0)
      have hgood := hgood (by omega)
      refine ⟨⟨by omega, by simp only [List.length_cons]; omega⟩, fun A' hA' => ?_⟩
      have hs' := slB_drop hs 1 (by simp) hA'
      rw [show (x :: l).length - Int.toNat 1 = l.length by simp, hwx]
      repeat' ((fail_if_success with_reducible refine Stop.mk ?_); (conv => whnf); with_reducible first | refine br_t ?_ | refine br_f ?_ | refine br_nn ?_ | refine br_ns ?_ | refine br_not ?_ | refine br_d (fun h => ?_) (fun h => ?_) | refine br_e (fun h => ?_) (fun h => ?_) | refine br_n (fun h => ?_) (fun h => ?_) | refine drw (by kernel_rfl) ?_ | refine chk (by kernel_rfl) ?_ | refine stop ?_)
      all_goals refine Stop.mk ?_
      refine fin_id hE 0 rfl rfl rfl rfl ⟨x, ⟨A', c - 1, (l, 0), rfl, ?_, rfl, rfl⟩, fun h1 => ?_, fun h1 => ?_⟩
      · rw [hgood]
        exact ⟨hs', fun y hy => hbb y (by simp [hy]), by simp only [List.length_cons] at hl ⊢; omega, rfl, fun _ => rfl⟩
      · rw [hgood]
      · rw [hgood] at h1; exact absurd rfl h1
  · have h0 : r.2 ≠ 0 := by assumption
    have hp0 : p.2 ≠ 0 := by rw [← he]; exact h0
    have hsf : (sFirst (goodR most not_) why p).2 = p := by
      unfold sFirst; rw [sByte_err hp0]; simp only; split
      · rfl
      · unfold sFail failE; rw [if_neg hp0]
    refine fin_id hE 0 rfl rfl rfl rfl ⟨0, ⟨A, c, r, rfl, ?_, rfl, rfl⟩, fun h1 => ?_, fun _ => rfl⟩
    · rw [hsf]; exact ⟨hs, hbb, hl, he, hr⟩
    · rw [hsf] at h1; exact absurd h1 hp0
theorem sFail_of {why : Int} {p : Ps} (h : p.2 = 0) : sFail why p = (p.1, why) := by unfold sFail failE; rw [if_pos h]
theorem sFail_err {why : Int} {p : Ps} (h : p.2 ≠ 0) : sFail why p = p := by unfold sFail failE; rw [if_neg h]
/-- A place is a number that is in range. -/
theorem sPlace_is {regs slots : Int} {p : Ps} (hb : isB p.1) (h1 : regs ≤ 1099511627776) (h2 : slots ≤ 1099511627776) : (sPlace regs slots p).2 = (if (sNum 4611686018427387904 10 p).2.2 = 0 ∧ ¬ inRange (sNum 4611686018427387904 10 p).1 regs slots then sFail 10 (sNum 4611686018427387904 10 p).2 else (sNum 4611686018427387904 10 p).2) ∧
    ((sNum 4611686018427387904 10 p).2.2 = 0 → (sPlace regs slots p).1 = (sNum 4611686018427387904 10 p).1) := by
  have hr := sUint_range (most := maxU) hb
  unfold sPlace sNum
  simp only
  generalize sUint maxU p = u at *
  by_cases h3 : 4611686018427387904 ≤ u.1
  · rw [if_pos h3]
    by_cases h0 : u.2.2 = 0
    · have hin : 4611686018427387904 < u.1 ∨ ¬ inRange (IntKind.i64.wrap u.1) regs slots := by
        by_cases h4 : 4611686018427387904 < u.1
        · exact .inl h4
        · right
          have : u.1 = 4611686018427387904 := by omega
          rw [this]
          unfold inRange
          rw [i64_in (by omega) (by omega)]
          omega
      rw [if_pos ⟨h0, hin⟩, sFail_of h0]
      simp
    · rw [if_neg (fun h => h0 h.1), sFail_err h0]
      simp [h0]
  · rw [if_neg h3]
    have hw : IntKind.i64.wrap u.1 = u.1 := i64_in (by omega) (by omega)
    rw [hw]
    refine ⟨?_, fun _ => rfl⟩
    by_cases h0 : u.2.2 = 0
    · by_cases h4 : inRange u.1 regs slots
      · rw [if_neg (by rintro ⟨_, h5 | h5⟩; omega; exact h5 h4), if_neg (by rintro ⟨_, h5⟩; exact h5 h4)]
      · rw [if_pos ⟨h0, .inr h4⟩, if_pos ⟨h0, h4⟩]
    · rw [if_neg (fun h => h0 h.1), if_neg (fun h => h0 h.1)]
theorem sNum_range {bound why : Int} {p : Ps} (hb : isB p.1) (h0 : 0 ≤ bound) : 0 ≤ (sNum bound why p).1 ∧ ((sNum bound why p).1 < bound ∨ (sNum bound why p).1 = 0) := by
  have hr := sUint_range (most := maxU) hb
  unfold sNum
  split
  · simp
  · omega
set_option maxHeartbeats 8000000 in
theorem rlocation_fn {G : Gh} {A : Option Addr} {c : Nat} {p r : Ps} (regs slots : Int) (h : RIn G A c p r) (hpb : isB p.1) (h1 : regs ≤ 1099511627776) (h2 : slots ≤ 1099511627776) :
    Ct Try.prog 105 [inS A c r, .v (.int .i64 regs), .v (.int .i64 slots)] [] G fun sv H' G' =>
      ∃ v, RPost G (.v (.int .i64 v)) (sPlace regs slots p).2 sv H' G' ∧ ((sPlace regs slots p).2.2 = 0 → v = (sPlace regs slots p).1) := by
  obtain ⟨hs1, hs2⟩ := sPlace_is (p := p) hpb h1 h2
  have hrg := sNum_range (bound := 4611686018427387904) (why := 10) hpb (by omega)
  refine fn_of follows [(4, (.cons 0 [] (.cons 1 [] (.cons 2 [] (.cons 3 [1] .nil)))))] Try.func105 rfl rfl fun E hE => ?_
  repeat' ((fail_if_success with_reducible refine Stop.mk ?_); (conv => whnf); with_reducible first | refine br_t ?_ | refine br_f ?_ | refine br_nn ?_ | refine br_ns ?_ | refine br_not ?_ | refine br_d (fun h => ?_) (fun h => ?_) | refine br_e (fun h => ?_) (fun h => ?_) | refine br_n (fun h => ?_) (fun h => ?_) | refine drw (by kernel_rfl) ?_ | refine chk (by kernel_rfl) ?_ | refine stop ?_)
  all_goals refine Stop.mk ?_
  refine call_fn [] (rNumber_fn 4611686018427387904 10 h (by omega) (by omega)) rfl trivial (by decide) ?_
  rintro sv H' G' ⟨A1, c1, r1, rfl, h1, rfl, rfl⟩ -
  refine ⟨Nat.zero_le _, ?_⟩
  generalize sNum 4611686018427387904 10 p = n at *
  repeat' ((fail_if_success with_reducible refine Stop.mk ?_); (conv => whnf); with_reducible first | refine br_t ?_ | refine br_f ?_ | refine br_nn ?_ | refine br_ns ?_ | refine br_not ?_ | refine br_d (fun h => ?_) (fun h => ?_) | refine br_e (fun h => ?_) (fun h => ?_) | refine br_n (fun h => ?_) (fun h => ?_) | refine drw (by kernel_rfl) ?_ | refine chk (by kernel_rfl) ?_ | refine stop ?_)
  all_goals refine Stop.mk ?_
  all_goals try
    refine call_fn [] (rinRange_fn _ n.1 regs slots (by unfold in64; omega)) rfl trivial (by decide) ?_
    rintro sv H' G' ⟨rfl, rfl, rfl⟩ -
    refine ⟨Nat.le_of_ble_eq_true rfl, ?_⟩
    repeat' ((fail_if_success with_reducible refine Stop.mk ?_); (conv => whnf); with_reducible first | refine br_t ?_ | refine br_f ?_ | refine br_nn ?_ | refine br_ns ?_ | refine br_not ?_ | refine br_d (fun h => ?_) (fun h => ?_) | refine br_e (fun h => ?_) (fun h => ?_) | refine br_n (fun h => ?_) (fun h => ?_) | refine drw (by kernel_rfl) ?_ | refine chk (by kernel_rfl) ?_ | refine stop ?_)
    all_goals refine Stop.mk ?_
  · have h0 : n.2.2 = 0 := by rw [← h1.he]; assumption
    rw [if_neg (by rintro ⟨_, h5⟩; exact h5 (by assumption))] at hs1
    refine fin_id hE 0 rfl rfl rfl rfl ⟨n.1, ⟨A1, c1, r1, rfl, hs1 ▸ h1, rfl, rfl⟩, fun _ => (hs2 h0).symm⟩
  · have h0 : n.2.2 = 0 := by rw [← h1.he]; assumption
    rw [if_pos ⟨h0, by assumption⟩, sFail_of h0] at hs1
    refine fin_id hE 0 rfl rfl rfl rfl ⟨0, ⟨none, 0, ([], 10), rfl, RIn.err (by rw [hs1]) (by decide), rfl, rfl⟩, fun h5 => ?_⟩
    rw [hs1] at h5; simp at h5
  · have h0 : n.2.2 ≠ 0 := by rw [← h1.he]; assumption
    rw [if_neg (fun h5 => h0 h5.1)] at hs1
    refine fin_id hE 0 rfl rfl rfl rfl ⟨n.1, ⟨A1, c1, r1, rfl, hs1 ▸ h1, rfl, rfl⟩, fun h5 => ?_⟩
    rw [hs1] at h5; exact absurd h5 h0
/-! ### read -/
/-- What is read behind the opcode. -/
def sRead (op regs slots : Int) (p : Ps) : Mac × Ps :=
  if op = 18 then
    let m := sMove regs slots p
    (if m.2.2 = 0 then ⟨op, 0, 0, 0, 0, m.1.1, m.1.2⟩ else mac0, m.2)
  else
    let f := sFlds op regs p
    (if f.2.2 = 0 then ⟨op, f.1.1, f.1.2.1, f.1.2.2.1, f.1.2.2.2, 0, 0⟩ else mac0, f.2)
theorem sMac_is (regs slots : Int) (p : Ps) : sMac regs slots p = sRead (sFirst machOp 8 p).1 regs slots (sFirst machOp 8 p).2 := rfl
set_option maxHeartbeats 8000000 in
theorem rread_fn {G : Gh} {A : Option Addr} {c : Nat} {p r : Ps} (op regs slots : Int) (hI : RIn G A c p r) (hpb : isB p.1) (hr : 0 ≤ regs) (h1 : regs ≤ 1099511627776) (h2 : slots ≤ 1099511627776) :
    Ct Try.prog 89 [inS A c r, .v (.int .i64 op), .v (.int .i64 regs), .v (.int .i64 slots)] [] G (RPost G (sRead op regs slots p).1.sv (sRead op regs slots p).2) := by
  have hsh := shape_of op
  refine fn_of follows [(21, (.cons 0 [] (.cons 1 [] (.cons 2 [] (.cons 3 [1] .nil))))), (22, (.cons 0 [] (.cons 1 [] (.cons 2 [0] (.cons 3 [0, 1] .nil)))))] Try.func89 rfl rfl fun E hE => ?_
  have hfin : op ≠ 18 → ∀ d a b i r, sFlds op regs p = ((d, a, b, i), r) → sRead op regs slots p = (if r.2 = 0 then ⟨op, d, a, b, i, 0, 0⟩ else mac0, r) := by
    intro hne d a b i r hf
    simp only [sRead, hf, if_neg hne]
  have hfl : sFlds op regs p = sFlds op regs p := rfl
  conv at hfl => rhs; unfold sFlds
  have hfin2 : op = 18 → ∀ d s r, sMove regs slots p = ((d, s), r) → sRead op regs slots p = (if r.2 = 0 then ⟨op, 0, 0, 0, 0, d, s⟩ else mac0, r) := by
    intro he d s r hf
    simp only [sRead, hf, if_pos he]
  repeat' ((fail_if_success with_reducible refine Stop.mk ?_); (conv => whnf); with_reducible first | refine br_t ?_ | refine br_f ?_ | refine br_nn ?_ | refine br_ns ?_ | refine br_not ?_ | refine br_d (fun h => ?_) (fun h => ?_) | refine br_e (fun h => ?_) (fun h => ?_) | refine br_n (fun h => ?_) (fun h => ?_) | refine drw (by kernel_rfl) ?_ | refine chk (by kernel_rfl) ?_ | refine stop ?_)
  all_goals refine Stop.mk ?_
  rcases hsh with ⟨e1, e2, e3, e4⟩ | ⟨e1, e2, e3, e4⟩ | ⟨e1, e2, e3, e4⟩ | ⟨e1, e2, e3, e4⟩ | ⟨e1, e2, e3, e4⟩
  all_goals
    rw [e1, e2, e3, e4] at hfl
    simp only [optN, optI] at hfl
    refine call_fn [] (usesD_fn _ op) rfl trivial (by decide) ?_
    rintro sv H' G' ⟨rfl, rfl, rfl⟩ -
    refine ⟨Nat.le_of_ble_eq_true rfl, ?_⟩
    rw [e1]
    repeat' ((fail_if_success with_reducible refine Stop.mk ?_); (conv => whnf); with_reducible first | refine br_t ?_ | refine br_f ?_ | refine br_nn ?_ | refine br_ns ?_ | refine br_not ?_ | refine br_d (fun h => ?_) (fun h => ?_) | refine br_e (fun h => ?_) (fun h => ?_) | refine br_n (fun h => ?_) (fun h => ?_) | refine drw (by kernel_rfl) ?_ | refine chk (by kernel_rfl) ?_ | refine stop ?_)
    all_goals refine Stop.mk ?_
  all_goals try
    refine call_fn [] (rNumber_fn regs 9 hI ⟨hr, by omega⟩ (by decide)) rfl trivial (by decide) ?_
    rintro sv H' G' ⟨A1, c1, r1, rfl, hD, rfl, rfl⟩ -
    refine ⟨Nat.zero_le _, ?_⟩
    repeat' ((fail_if_success with_reducible refine Stop.mk ?_); (conv => whnf); with_reducible first | refine br_t ?_ | refine br_f ?_ | refine br_nn ?_ | refine br_ns ?_ | refine br_not ?_ | refine br_d (fun h => ?_) (fun h => ?_) | refine br_e (fun h => ?_) (fun h => ?_) | refine br_n (fun h => ?_) (fun h => ?_) | refine drw (by kernel_rfl) ?_ | refine chk (by kernel_rfl) ?_ | refine stop ?_)
    all_goals refine Stop.mk ?_
  all_goals
    refine call_fn [] (usesA_fn _ op) rfl trivial (by decide) ?_
    rintro sv H' G' ⟨rfl, rfl, rfl⟩ -
    refine ⟨Nat.le_of_ble_eq_true rfl, ?_⟩
    rw [e2]
    repeat' ((fail_if_success with_reducible refine Stop.mk ?_); (conv => whnf); with_reducible first | refine br_t ?_ | refine br_f ?_ | refine br_nn ?_ | refine br_ns ?_ | refine br_not ?_ | refine br_d (fun h => ?_) (fun h => ?_) | refine br_e (fun h => ?_) (fun h => ?_) | refine br_n (fun h => ?_) (fun h => ?_) | refine drw (by kernel_rfl) ?_ | refine chk (by kernel_rfl) ?_ | refine stop ?_)
    all_goals refine Stop.mk ?_
  all_goals try
    refine call_fn [] (rNumber_fn regs 9 hD ⟨hr, by omega⟩ (by decide)) rfl trivial (by decide) ?_
    rintro sv H' G' ⟨A2, c2, r2, rfl, hA, rfl, rfl⟩ -
    refine ⟨Nat.zero_le _, ?_⟩
    repeat' ((fail_if_success with_reducible refine Stop.mk ?_); (conv => whnf); with_reducible first | refine br_t ?_ | refine br_f ?_ | refine br_nn ?_ | refine br_ns ?_ | refine br_not ?_ | refine br_d (fun h => ?_) (fun h => ?_) | refine br_e (fun h => ?_) (fun h => ?_) | refine br_n (fun h => ?_) (fun h => ?_) | refine drw (by kernel_rfl) ?_ | refine chk (by kernel_rfl) ?_ | refine stop ?_)
    all_goals refine Stop.mk ?_
  all_goals try
    refine call_fn [] (rNumber_fn regs 9 hI ⟨hr, by omega⟩ (by decide)) rfl trivial (by decide) ?_
    rintro sv H' G' ⟨A2, c2, r2, rfl, hA, rfl, rfl⟩ -
    refine ⟨Nat.zero_le _, ?_⟩
    repeat' ((fail_if_success with_reducible refine Stop.mk ?_); (conv => whnf); with_reducible first | refine br_t ?_ | refine br_f ?_ | refine br_nn ?_ | refine br_ns ?_ | refine br_not ?_ | refine br_d (fun h => ?_) (fun h => ?_) | refine br_e (fun h => ?_) (fun h => ?_) | refine br_n (fun h => ?_) (fun h => ?_) | refine drw (by kernel_rfl) ?_ | refine chk (by kernel_rfl) ?_ | refine stop ?_)
    all_goals refine Stop.mk ?_
  all_goals
    refine call_fn [] (usesB_fn _ op) rfl trivial (by decide) ?_
    rintro sv H' G' ⟨rfl, rfl, rfl⟩ -
    refine ⟨Nat.le_of_ble_eq_true rfl, ?_⟩
    rw [e3]
    repeat' ((fail_if_success with_reducible refine Stop.mk ?_); (conv => whnf); with_reducible first | refine br_t ?_ | refine br_f ?_ | refine br_nn ?_ | refine br_ns ?_ | refine br_not ?_ | refine br_d (fun h => ?_) (fun h => ?_) | refine br_e (fun h => ?_) (fun h => ?_) | refine br_n (fun h => ?_) (fun h => ?_) | refine drw (by kernel_rfl) ?_ | refine chk (by kernel_rfl) ?_ | refine stop ?_)
    all_goals refine Stop.mk ?_
  all_goals try
    refine call_fn [] (rNumber_fn regs 9 hA ⟨hr, by omega⟩ (by decide)) rfl trivial (by decide) ?_
    rintro sv H' G' ⟨A3, c3, r3, rfl, hB, rfl, rfl⟩ -
    refine ⟨Nat.zero_le _, ?_⟩
    repeat' ((fail_if_success with_reducible refine Stop.mk ?_); (conv => whnf); with_reducible first | refine br_t ?_ | refine br_f ?_ | refine br_nn ?_ | refine br_ns ?_ | refine br_not ?_ | refine br_d (fun h => ?_) (fun h => ?_) | refine br_e (fun h => ?_) (fun h => ?_) | refine br_n (fun h => ?_) (fun h => ?_) | refine drw (by kernel_rfl) ?_ | refine chk (by kernel_rfl) ?_ | refine stop ?_)
    all_goals refine Stop.mk ?_
  all_goals try (exfalso; have := of_decide_eq_true e4; omega)
  all_goals try (exfalso; have := of_decide_eq_false e4; omega)
  all_goals try (exfalso; have := of_decide_eq_true e1; unfold uD at this; omega)
  all_goals try (exfalso; have := of_decide_eq_true e2; unfold uA at this; omega)
  all_goals first | have hL := hB | have hL := hA | have hL := hD | have hL := hI
  all_goals try
    (have hn18 : op ≠ 18 := by first | assumption | omega | (have := of_decide_eq_true e4; omega)
     have hf := hfin hn18 _ _ _ _ _ hfl
     try rw [sInt_err (by rw [← hD.he]; assumption)] at hf
     first
       | (rw [if_pos (by rw [← hL.he]; assumption)] at hf
          refine fin_id hE 0 rfl rfl rfl rfl ⟨_, _, _, ?_, (by rw [hf]; exact hL), rfl, rfl⟩
          rw [hf]; rfl)
       | (rw [if_neg (by rw [← hL.he]; assumption)] at hf
          refine fin_id hE 0 rfl rfl rfl rfl ⟨_, _, _, ?_, (by rw [hf]; exact hL), rfl, rfl⟩
          rw [hf]; rfl))
  · have h0 : r1.2 = 0 := by assumption
    generalize sNum regs 9 p = n at *
    obtain ⟨n, q⟩ := n
    obtain ⟨hs, hbb, hl, he, hr1⟩ := hD
    have hcap := hs.cap
    have htop := hs.top
    obtain ⟨l, e⟩ := q
    obtain ⟨l2, e2⟩ := r1
    dsimp only at *
    subst he
    subst h0
    obtain rfl := hr1 rfl
    have hsu := sUint_max' hbb
    have hsi : sInt (l2, 0) = (unzig (sUint maxU (l2, 0)).1, (sUint maxU (l2, 0)).2) := rfl
    rw [hsu] at hsi
    refine call_fn [] (refGet_fn _ A1 c1 l2 hbb hs) rfl trivial (by decide) ?_
    rintro sv H' G' ⟨rfl, rfl, rfl⟩ -
    refine ⟨Nat.le_of_ble_eq_true rfl, ?_⟩
    unfold getR
    have hform := vdec_form hbb
    generalize vdec 0 l2 = d at *
    repeat' ((fail_if_success with_reducible refine Stop.mk ?_); (conv => whnf); with_reducible first | refine br_t ?_ | refine br_f ?_ | refine br_nn ?_ | refine br_ns ?_ | refine br_not ?_ | refine br_d (fun h => ?_) (fun h => ?_) | refine br_e (fun h => ?_) (fun h => ?_) | refine br_n (fun h => ?_) (fun h => ?_) | refine drw (by kernel_rfl) ?_ | refine chk (by kernel_rfl) ?_ | refine stop ?_)
    all_goals refine Stop.mk ?_
    · rcases hform with ⟨e, he, hd⟩ | ⟨n', m, hd, h3, h4, h5, h6, h7⟩
      · have h1 : d.2.2 = 0 := by assumption
        rw [hd] at h1; simp only at h1; omega
      · subst hd
        dsimp only at *
        simp only [if_true, Int.toNat_natCast] at hsi
        rw [hsi] at hfl
        refine call_fn [] (refUnzigzag_fn _ (n' : Int) (by omega) (by omega)) rfl trivial (by decide) ?_
        rintro sv H' G' ⟨rfl, rfl, rfl⟩ -
        refine ⟨Nat.le_of_ble_eq_true rfl, ?_⟩
        repeat' ((fail_if_success with_reducible refine Stop.mk ?_); (conv => whnf); with_reducible first | refine br_t ?_ | refine br_f ?_ | refine br_nn ?_ | refine br_ns ?_ | refine br_not ?_ | refine br_d (fun h => ?_) (fun h => ?_) | refine br_e (fun h => ?_) (fun h => ?_) | refine br_n (fun h => ?_) (fun h => ?_) | refine drw (by kernel_rfl) ?_ | refine chk (by kernel_rfl) ?_ | refine stop ?_)
        all_goals refine Stop.mk ?_
        refine ⟨⟨by omega, by omega⟩, fun A' hA' => ?_⟩
        rw [Int.toNat_natCast] at hA' ⊢
        have hs' := slB_drop hs m (by omega) hA'
        rw [show l2.length - m = (l2.drop m).length by simp]
        repeat' ((fail_if_success with_reducible refine Stop.mk ?_); (conv => whnf); first | with_reducible refine br_t ?_ | with_reducible refine br_f ?_ | with_reducible refine br_nn ?_ | with_reducible refine br_ns ?_ | with_reducible refine br_not ?_ | ((with_reducible refine br_d (fun h => ?_) (fun h => ?_)) <;> try (exfalso; omega)) | ((with_reducible refine br_e (fun h => ?_) (fun h => ?_)) <;> try (exfalso; omega)) | ((with_reducible refine br_n (fun h => ?_) (fun h => ?_)) <;> try (exfalso; omega)) | with_reducible refine drw (by kernel_rfl) ?_ | with_reducible refine chk (by kernel_rfl) ?_ | with_reducible refine stop ?_)
        all_goals refine Stop.mk ?_
        have hf := hfin (by have := of_decide_eq_true e4; omega) _ _ _ _ _ hfl
        simp only [if_true] at hf
        refine fin_id hE 0 rfl rfl rfl rfl ⟨A', c1 - m, (l2.drop m, 0), ?_, ?_, rfl, rfl⟩
        · rw [hf]; rfl
        · rw [hf]
          exact ⟨hs', isB_drop hbb m, by simp only [List.length_drop]; omega, rfl, fun _ => rfl⟩
    · have h1 : d.2.2 ≠ 0 := by assumption
      simp only [h1, if_false] at hsi
      rw [hsi] at hfl
      have hf := hfin (by have := of_decide_eq_true e4; omega) _ _ _ _ _ hfl
      simp only [h1, if_false] at hf
      refine fin_id hE 0 rfl rfl rfl rfl ⟨none, 0, ([], d.2.2), ?_, ?_, rfl, rfl⟩
      · rw [hf]; rfl
      · rw [hf]
        exact RIn.err rfl h1
  · have h18 : op = 18 := by assumption
    have hpe : ∀ {q : Ps}, q.2 ≠ 0 → (sPlace regs slots q).2 = q := by
      intro q hq
      unfold sPlace; simp only; rw [sUint_err hq, if_neg (fun h => hq h.1)]
    have hmv : sMove regs slots p = sMove regs slots p := rfl
    conv at hmv => rhs; unfold sMove
    dsimp only at hmv
    refine call_fn [] (rlocation_fn regs slots hI hpb h1 h2) rfl trivial (by decide) ?_
    rintro sv H' G' ⟨v, ⟨A1, c1, r1, rfl, hD, rfl, rfl⟩, hv⟩ -
    refine ⟨Nat.zero_le _, ?_⟩
    have hpb1 : isB (sPlace regs slots p).2.1 := fun x hx => hpb x ((sPlace_suf _ _ _).subset hx)
    generalize sPlace regs slots p = d at *
    repeat' ((fail_if_success with_reducible refine Stop.mk ?_); (conv => whnf); first | with_reducible refine br_t ?_ | with_reducible refine br_f ?_ | with_reducible refine br_nn ?_ | with_reducible refine br_ns ?_ | with_reducible refine br_not ?_ | ((with_reducible refine br_d (fun h => ?_) (fun h => ?_)) <;> try (exfalso; omega)) | ((with_reducible refine br_e (fun h => ?_) (fun h => ?_)) <;> try (exfalso; omega)) | ((with_reducible refine br_n (fun h => ?_) (fun h => ?_)) <;> try (exfalso; omega)) | with_reducible refine drw (by kernel_rfl) ?_ | with_reducible refine chk (by kernel_rfl) ?_ | with_reducible refine stop ?_)
    all_goals refine Stop.mk ?_
    · refine call_fn [] (rlocation_fn regs slots hD hpb1 h1 h2) rfl trivial (by decide) ?_
      rintro sv H' G' ⟨w, ⟨A2, c2, r2, rfl, hA, rfl, rfl⟩, hw⟩ -
      refine ⟨Nat.zero_le _, ?_⟩
      have hd0 : d.2.2 = 0 := by rw [← hD.he]; assumption
      have hv' := hv hd0
      subst hv'
      obtain ⟨s, hs⟩ : ∃ s, s = sPlace regs slots d.2 := ⟨_, rfl⟩
      rw [← hs] at hA hw hmv
      repeat' ((fail_if_success with_reducible refine Stop.mk ?_); (conv => whnf); first | with_reducible refine br_t ?_ | with_reducible refine br_f ?_ | with_reducible refine br_nn ?_ | with_reducible refine br_ns ?_ | with_reducible refine br_not ?_ | ((with_reducible refine br_d (fun h => ?_) (fun h => ?_)) <;> try (exfalso; omega)) | ((with_reducible refine br_e (fun h => ?_) (fun h => ?_)) <;> try (exfalso; omega)) | ((with_reducible refine br_n (fun h => ?_) (fun h => ?_)) <;> try (exfalso; omega)) | with_reducible refine drw (by kernel_rfl) ?_ | with_reducible refine chk (by kernel_rfl) ?_ | with_reducible refine stop ?_)
      all_goals refine Stop.mk ?_
      all_goals
        have hmod : isSlot d.1 ↔ d.1.tmod 2 = 1 := Iff.rfl
        have hmod2 : isSlot s.1 ↔ s.1.tmod 2 = 1 := Iff.rfl
      all_goals try
        (have hs0 : s.2.2 = 0 := by rw [← hA.he]; assumption
         have hw' := hw hs0
         subst hw')
      all_goals try
        (have hs0 : s.2.2 = 0 := by rw [← hA.he]; assumption
         rw [if_neg (by rintro ⟨h5, h6⟩; rw [hmod] at h5; rw [hmod2] at h6; first | exact absurd h5 (by assumption) | exact absurd h6 (by assumption))] at hmv
         have hf := hfin2 h18 _ _ _ hmv
         rw [if_pos hs0] at hf
         refine fin_id hE 0 rfl rfl rfl rfl ⟨A2, c2, r2, ?_, (by rw [hf]; exact hA), rfl, rfl⟩
         rw [hf]; rfl)
      all_goals try
        (have hs0 : s.2.2 = 0 := by rw [← hA.he]; assumption
         have h10 : sMove regs slots p = ((d.1, s.1), sFail 10 s.2) := by rw [hmv, if_pos ⟨hmod.2 (by assumption), hmod2.2 (by assumption)⟩]
         have hf := hfin2 h18 _ _ _ h10
         rw [sFail_of hs0] at hf
         simp only [show ¬ (10 : Int) = 0 by decide, if_false] at hf
         refine fin_id hE 0 rfl rfl rfl rfl ⟨none, 0, ([], 10), ?_, (by rw [hf]; exact RIn.err rfl (by decide)), rfl, rfl⟩
         rw [hf]; rfl)
      all_goals
        have hs0 : s.2.2 ≠ 0 := by rw [← hA.he]; assumption
        have hf := hfin2 h18 _ _ _ hmv
        rw [sFail_err hs0] at hf
        simp only [ite_self, hs0, if_false] at hf
        refine fin_id hE 0 rfl rfl rfl rfl ⟨A2, c2, r2, ?_, (by rw [hf]; exact hA), rfl, rfl⟩
        rw [hf]; rfl
    · have hd0 : d.2.2 ≠ 0 := by rw [← hD.he]; assumption
      have hq := hpe hd0
      have hf := hfin2 h18 _ _ _ hmv
      rw [hq, sFail_err hd0] at hf
      simp only [ite_self, hd0, if_false] at hf
      refine fin_id hE 0 rfl rfl rfl rfl ⟨A1, c1, r1, ?_, ?_, rfl, rfl⟩
      · rw [hf]; rfl
      · rw [hf]; exact hD
end Go.Proofs.Ytkhajngpcgmpnaa.Cu
