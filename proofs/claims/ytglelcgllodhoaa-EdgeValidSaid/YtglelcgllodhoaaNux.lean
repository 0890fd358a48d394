/- Nux: Nu, Rn in one text. -/
import Derived.Test.YtglelcgllodhoaaCub
import Derived.Test.YtglelcgllodhoaaVTx
namespace Go.Proofs.Ytglelcgllodhoaa.Cu
open Go Go.SX Go.Proofs.Ytglelcgllodhoaa.VT
set_option maxRecDepth 100000
set_option linter.unusedVariables false
set_option linter.unusedSimpArgs false

def in64 (x : Int) : Prop := -9223372036854775808 ≤ x ∧ x ≤ 9223372036854775807
theorem bdec {b : Bool} {P : Prop} [Decidable P] (h : b = true ↔ P) : b = decide P := by
  cases b
  · exact (decide_eq_false (fun hp => by have := h.2 hp; simp at this)).symm
  · exact (decide_eq_true (h.1 rfl)).symm
/-! ### locations -/
def isSlot (l : Int) : Prop := l.tmod 2 = 1
instance (l : Int) : Decidable (isSlot l) := inferInstanceAs (Decidable (_ = _))
def inRange (l regs slots : Int) : Prop := 0 ≤ l ∧ ((l % 2 = 1 ∧ l / 2 < slots) ∨ (l % 2 ≠ 1 ∧ l / 2 < regs))
instance (l regs slots : Int) : Decidable (inRange l regs slots) := inferInstanceAs (Decidable (_ ∧ _))
theorem isSlot_nonneg {l : Int} (h : 0 ≤ l) : isSlot l ↔ l % 2 = 1 := by unfold isSlot; rw [Int.tmod_eq_emod_of_nonneg h]
theorem isSlot_fn (G : Gh) (l : Int) : Ct Try.prog 32 [.v (.int .i64 l)] [] G fun sv H' G' => sv = .v (.bool (decide (isSlot l))) ∧ H' = [] ∧ G' = G := by
  refine fn_of follows [] Try.func32 rfl rfl fun E hE => ?_
  repeat' ((fail_if_success with_reducible refine Stop.mk ?_); (conv => whnf); with_reducible first | refine br_t ?_ | refine br_f ?_ | refine br_nn ?_ | refine br_ns ?_ | refine br_not ?_ | refine br_d (fun h => ?_) (fun h => ?_) | refine br_e (fun h => ?_) (fun h => ?_) | refine br_n (fun h => ?_) (fun h => ?_) | refine drw (by kernel_rfl) ?_ | refine chk (by kernel_rfl) ?_ | refine stop ?_)
  all_goals refine Stop.mk ?_
  refine fin_all ⟨congrArg (fun b => SV.v (.bool b)) ?_, rfl, rfl⟩
  refine bdec ?_
  rw [beq_iff_eq]; exact Iff.rfl
theorem index_fn (G : Gh) (l : Int) (h : 0 ≤ l ∧ l ≤ 9223372036854775807) : Ct Try.prog 33 [.v (.int .i64 l)] [] G fun sv H' G' => sv = .v (.int .i64 (l / 2)) ∧ H' = [] ∧ G' = G := by
  refine fn_of follows [] Try.func33 rfl rfl fun E hE => ?_
  repeat' ((fail_if_success with_reducible refine Stop.mk ?_); (conv => whnf); with_reducible first | refine br_t ?_ | refine br_f ?_ | refine br_nn ?_ | refine br_ns ?_ | refine br_not ?_ | refine br_d (fun h => ?_) (fun h => ?_) | refine br_e (fun h => ?_) (fun h => ?_) | refine br_n (fun h => ?_) (fun h => ?_) | refine drw (by kernel_rfl) ?_ | refine chk (by kernel_rfl) ?_ | refine stop ?_)
  all_goals refine Stop.mk ?_
  refine fin_all ⟨svi ?_, rfl, rfl⟩
  rw [Int.tdiv_eq_ediv_of_nonneg (by omega), i64_in (by omega) (by omega)]
theorem inRange_fn (G : Gh) (l regs slots : Int) (h : in64 l) : Ct Try.prog 47 [.v (.int .i64 l), .v (.int .i64 regs), .v (.int .i64 slots)] [] G fun sv H' G' => sv = .v (.bool (decide (inRange l regs slots))) ∧ H' = [] ∧ G' = G := by
  obtain ⟨h1, h2⟩ := h
  refine fn_of follows [] Try.func47 rfl rfl fun E hE => ?_
  repeat' ((fail_if_success with_reducible refine Stop.mk ?_); (conv => whnf); with_reducible first | refine br_t ?_ | refine br_f ?_ | refine br_nn ?_ | refine br_ns ?_ | refine br_not ?_ | refine br_d (fun h => ?_) (fun h => ?_) | refine br_e (fun h => ?_) (fun h => ?_) | refine br_n (fun h => ?_) (fun h => ?_) | refine drw (by kernel_rfl) ?_ | refine chk (by kernel_rfl) ?_ | refine stop ?_)
  all_goals refine Stop.mk ?_
  refine call_fn [] (isSlot_fn _ l) rfl trivial (by decide) ?_
  rintro sv H' G' ⟨rfl, rfl, rfl⟩ -
  refine ⟨Nat.le_of_ble_eq_true rfl, ?_⟩
  repeat' ((fail_if_success with_reducible refine Stop.mk ?_); (conv => whnf); with_reducible first | refine br_t ?_ | refine br_f ?_ | refine br_nn ?_ | refine br_ns ?_ | refine br_not ?_ | refine br_d (fun h => ?_) (fun h => ?_) | refine br_e (fun h => ?_) (fun h => ?_) | refine br_n (fun h => ?_) (fun h => ?_) | refine drw (by kernel_rfl) ?_ | refine chk (by kernel_rfl) ?_ | refine stop ?_)
  all_goals refine Stop.mk ?_
  all_goals try
    refine call_fn [] (index_fn _ l (by omega)) rfl trivial (by decide) ?_
    rintro sv H' G' ⟨rfl, rfl, rfl⟩ -
    refine ⟨Nat.le_of_ble_eq_true rfl, ?_⟩
    repeat' ((fail_if_success with_reducible refine Stop.mk ?_); (conv => whnf); with_reducible first | refine br_t ?_ | refine br_f ?_ | refine br_nn ?_ | refine br_ns ?_ | refine br_not ?_ | refine br_d (fun h => ?_) (fun h => ?_) | refine br_e (fun h => ?_) (fun h => ?_) | refine br_n (fun h => ?_) (fun h => ?_) | refine drw (by kernel_rfl) ?_ | refine chk (by kernel_rfl) ?_ | refine stop ?_)
    all_goals refine Stop.mk ?_
  all_goals refine fin_all ⟨congrArg (fun b => SV.v (.bool b)) ?_, rfl, rfl⟩
  all_goals
    refine bdec ?_
    by_cases h0 : 0 ≤ l
    · have h3 := isSlot_nonneg h0
      first
        | (have e1 : l.tmod 2 = l % 2 := Int.tmod_eq_emod_of_nonneg h0
           have e2 : IntKind.i64.wrap (l.tdiv 2) = l / 2 := by rw [Int.tdiv_eq_ediv_of_nonneg h0, i64_in (by omega) (by omega)]
           simp only [decide_eq_true_iff, beq_iff_eq, bne_iff_ne, ne_eq, Bool.false_eq_true, false_iff, true_iff, inRange, h3, e1, e2] at *
           omega)
    · simp only [decide_eq_true_iff, beq_iff_eq, bne_iff_ne, ne_eq, Bool.false_eq_true, false_iff, true_iff, inRange] at *
      omega
theorem rinRange_fn (G : Gh) (l regs slots : Int) (h : in64 l) : Ct Try.prog 30 [.v (.int .i64 l), .v (.int .i64 regs), .v (.int .i64 slots)] [] G fun sv H' G' => sv = .v (.bool (decide (inRange l regs slots))) ∧ H' = [] ∧ G' = G := by
  obtain ⟨h1, h2⟩ := h
  refine fn_of follows [] Try.func30 rfl rfl fun E hE => ?_
  repeat' ((fail_if_success with_reducible refine Stop.mk ?_); (conv => whnf); with_reducible first | refine br_t ?_ | refine br_f ?_ | refine br_nn ?_ | refine br_ns ?_ | refine br_not ?_ | refine br_d (fun h => ?_) (fun h => ?_) | refine br_e (fun h => ?_) (fun h => ?_) | refine br_n (fun h => ?_) (fun h => ?_) | refine drw (by kernel_rfl) ?_ | refine chk (by kernel_rfl) ?_ | refine stop ?_)
  all_goals refine Stop.mk ?_
  all_goals refine fin_all ⟨congrArg (fun b => SV.v (.bool b)) ?_, rfl, rfl⟩
  all_goals
    refine bdec ?_
    by_cases h0 : 0 ≤ l
    · have h3 := isSlot_nonneg h0
      first
        | (have e1 : l.tmod 2 = l % 2 := Int.tmod_eq_emod_of_nonneg h0
           have e2 : IntKind.i64.wrap (l.tdiv 2) = l / 2 := by rw [Int.tdiv_eq_ediv_of_nonneg h0, i64_in (by omega) (by omega)]
           simp only [decide_eq_true_iff, beq_iff_eq, bne_iff_ne, ne_eq, Bool.false_eq_true, false_iff, true_iff, inRange, h3, e1, e2] at *
           omega)
    · simp only [decide_eq_true_iff, beq_iff_eq, bne_iff_ne, ne_eq, Bool.false_eq_true, false_iff, true_iff, inRange] at *
      omega
def pU (n : Int) : List Int := putB (IntKind.u64.wrap n).toNat
theorem pU_len (n : Int) : (pU n).length ≤ 10 := putB_len _
theorem pU_nat (n : Int) : 0 ≤ IntKind.u64.wrap n ∧ IntKind.u64.wrap n < 18446744073709551616 := by rw [IntKind.wrap_u64]; omega
def maxU : Int := 18446744073709551615
def sNum (bound why : Int) (p : Ps) : Int × Ps := if bound ≤ (sUint maxU p).1 then (0, sFail why (sUint maxU p).2) else sUint maxU p
theorem sNum_suf (bound why : Int) (p : Ps) : (sNum bound why p).2.1 <:+ p.1 := by
  unfold sNum; split
  · exact sUint_suf _ _
  · exact sUint_suf _ _
theorem in64_0 : in64 0 := by unfold in64; omega
theorem rowB_app' (l m : List Int) : Ob.row 5 1 (l.length + m.length) (byts l ++ byts m) = rowB (l ++ m) := by unfold rowB; rw [List.length_append, byts_app]
end Go.Proofs.Ytglelcgllodhoaa.Cu

namespace Go.Proofs.Ytglelcgllodhoaa.Cu
open Go Go.SX Go.Proofs.Ytglelcgllodhoaa.VT
set_option maxRecDepth 100000
set_option linter.unusedVariables false
set_option linter.unusedSimpArgs false

/-- The reference's input as a value. -/
def inS (A : Option Addr) (c : Nat) (r : Ps) : SV := .agg [.v (.slice A r.1.length c), .v (.int .i64 r.2)]
/-- The reference's input r stands for what is left and the error, p. -/
structure RIn (G : Gh) (A : Option Addr) (c : Nat) (p r : Ps) : Prop where
  hs : SlB G A c r.1
  hb : isB r.1
  hl : r.1.length ≤ 140737488355328
  he : r.2 = p.2
  hr : p.2 = 0 → r.1 = p.1
theorem RIn.to {G G' : Gh} {A : Option Addr} {c : Nat} {p r : Ps} (h : RIn G A c p r) (hg : Ghe G G') : RIn G' A c p r := ⟨Sl.to hg h.hs, h.hb, h.hl, h.he, h.hr⟩
theorem RIn.err {G : Gh} {p : Ps} {e : Int} (h : p.2 = e) (hne : e ≠ 0) : RIn G none 0 p ([], e) := ⟨slB_nil _, by intro x hx; simp at hx, by simp, h.symm, fun h0 => absurd (h0.symm.trans h).symm hne⟩
/-- What a reference's reader comes to. -/
def RPost (G : Gh) (v : SV) (p : Ps) (sv : SV) (H' : List Ob) (G' : Gh) : Prop := ∃ A c r, sv = .tup [v, inS A c r] ∧ RIn G A c p r ∧ H' = [] ∧ G' = G
theorem sNum_err {bound why : Int} {p : Ps} (h : p.2 ≠ 0) : sNum bound why p = (0, p) := by
  unfold sNum sFail failE
  rw [sUint_err h]
  simp [h]
theorem sUint_max' {l : List Int} (hb : isB l) : sUint maxU (l, 0) = if (vdec 0 l).2.2 = 0 then ((vdec 0 l).1, (l.drop (vdec 0 l).2.1.toNat, 0)) else (0, (l, (vdec 0 l).2.2)) := by
  unfold sUint
  simp only [ne_eq, not_true_eq_false, if_false]
  have hw : whyU maxU (vdec 0 l) = (vdec 0 l).2.2 := by
    unfold whyU maxU
    rcases vdec_form hb with ⟨x, hx, h⟩ | ⟨n, m, h, h3, _⟩ <;> rw [h]
    · rw [if_neg (by rintro ⟨h1, _⟩; simp only at h1; omega)]
    · rw [if_neg (by rintro ⟨_, h1⟩; simp only at h1; omega)]
  rw [hw]
end Go.Proofs.Ytglelcgllodhoaa.Cu
