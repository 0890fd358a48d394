/- Invariants: the reader of the next pair. -/
import Derived.Test.YtgdfhpknhcjipaaWi1
import Derived.Test.YtgdfhpknhcjipaaSe1
namespace Go.Proofs.Ytgdfhpknhcjipaa.Cu
open Go Go.SX Go.Proofs.Ytgdfhpknhcjipaa.VT
set_option maxRecDepth 100000
set_option linter.unusedVariables false
set_option linter.unusedSimpArgs false

def prO (q : Pr) : Ob := .cells 79 [.v (.int .i64 q.v), .v (.int .i64 q.l)]
def blO (b : Bool) : Ob := .cells 4 [.v (.bool b)]
/-- What the reader holds, but for the cursor. -/
def decL (vregs regs slots : Int) (s : PS) : List Ob := [.cells 47 [.p 0 0], .cells 3 [.v (.int .i64 vregs)], .cells 3 [.v (.int .i64 regs)], .cells 3 [.v (.int .i64 slots)], prO s.2, blO s.1]
def decF : SV := .f (.func 63) [] [.p 5 0, .p 1 0, .p 2 0, .p 6 0, .p 3 0, .p 4 0]
theorem decoder_fn {G : Gh} {A : Option Addr} {bs : List Int} {c : Nat} {p : Ps} (vregs regs slots : Int) :
    Ct Try.prog 49 [.p 0 0, .v (.int .i64 vregs), .v (.int .i64 regs), .v (.int .i64 slots)] [curL A bs c p] G fun sv H' G' => sv = decF ∧ H' = curL A bs c p :: decL vregs regs slots ps0 ∧ G' = G := by
  refine fn_of follows [] Try.func49 rfl rfl fun E hE => ?_
  repeat' ((fail_if_success with_reducible refine Stop.mk ?_); (conv => whnf); with_reducible first | refine br_t ?_ | refine br_f ?_ | refine br_nn ?_ | refine br_ns ?_ | refine br_not ?_ | refine br_d (fun h => ?_) (fun h => ?_) | refine br_e (fun h => ?_) (fun h => ?_) | refine br_n (fun h => ?_) (fun h => ?_) | refine drw (by kernel_rfl) ?_ | refine chk (by kernel_rfl) ?_ | refine stop ?_)
  all_goals refine Stop.mk ?_
  exact fin_all ⟨rfl, rfl, rfl⟩
theorem mkPr_t (q : Pr) (dv dl : Int) : mkPr (true, q) dv dl = ⟨q.v + dv, dl⟩ := by unfold mkPr; rw [if_pos (.inl rfl)]
theorem mkPr_1 (q : Pr) (dv dl : Int) (h : dv ≠ 0) : mkPr (false, q) dv dl = ⟨q.v + dv, dl⟩ := by unfold mkPr; rw [if_pos (.inr h)]
theorem mkPr_2 (q : Pr) (dv dl : Int) (h : dv = 0) : mkPr (false, q) dv dl = ⟨q.v + dv, q.l + (dl + 1)⟩ := by
  unfold mkPr
  rw [if_neg (by rintro (h1 | h1)
                 · exact absurd (show false = true from h1) (by decide)
                 · exact h1 h)]
  congr 1
  dsimp only
  omega
/-- The state after a pair. -/
def stP (vregs : Int) (s : PS) (p : Ps) (x : Pr) : PS := if (sDl (sDv vregs s p).2).2.2 ≠ 0 then s else (false, x)
set_option maxHeartbeats 8000000 in
theorem dec1_fn {G : Gh} {A : Option Addr} {bs : List Int} {c : Nat} {p : Ps} (vregs regs slots : Int) (s : PS) (hC : CurOK G A c bs p) (hv : vregs ≤ 1000000000) (hg : goodS vregs s) (hl : s.2.l ≤ 4000000000) :
    Ct Try.prog 63 [.p 5 0, .p 1 0, .p 2 0, .p 6 0, .p 3 0, .p 4 0] (curL A bs c p :: decL vregs regs slots s) G fun sv H' G' =>
      sv = (sPr vregs regs slots s p).1.sv ∧ H' = curL A bs c (sPr vregs regs slots s p).2 :: decL vregs regs slots (stP vregs s p (sPr vregs regs slots s p).1) ∧ G' = G := by
  obtain ⟨first, q⟩ := s
  obtain ⟨g1, g2, g3⟩ := hg
  dsimp only at g1 g2 g3 hl
  have hr1 := sUint_range (most := maxU) hC.isb
  have hcu := hC.next (sUint_suf maxU p)
  obtain ⟨p1, hp1⟩ : ∃ q', q' = (sDv vregs (first, q) p).2 := ⟨_, rfl⟩
  have hc1 : CurOK G A c bs p1 := hp1 ▸ hC.next (sNum_suf _ _ _)
  have hr2 := sUint_range (most := maxU) hc1.isb
  have hcu2 := hc1.next (sUint_suf maxU p1)
  obtain ⟨p2, hp2⟩ : ∃ q', q' = (sDl p1).2 := ⟨_, rfl⟩
  have hc2 : CurOK G A c bs p2 := hp2 ▸ hc1.next (sNum_suf _ _ _)
  have hw : IntKind.i64.wrap (vregs - q.v) = vregs - q.v := i64_in (by omega) (by omega)
  have hw2 : IntKind.u64.wrap (vregs - q.v) = vregs - q.v := u64_in (by omega) (by omega)
  have hst1 : p1.2 = 0 → (sDv vregs (first, q) p).1 = (sUint maxU p).1 ∧ (sUint maxU p).1 < vregs - q.v := by
    intro h0
    rw [hp1] at h0
    unfold sDv sNum at h0 ⊢
    dsimp only at h0 ⊢
    split at h0
    · exact absurd h0 (sFail_ne (by decide))
    · rw [if_neg (by assumption)]; exact ⟨rfl, by omega⟩
  have hst2 : p2.2 = 0 → p1.2 = 0 ∧ (sDl p1).1 = (sUint maxU p1).1 ∧ (sUint maxU p1).1 ≤ 1099511627776 := by
    intro h0
    have h01 : p1.2 = 0 := by
      rcases Decidable.em (p1.2 = 0) with h1 | h1
      · exact h1
      · rw [hp2] at h0; unfold sDl at h0; rw [sNum_st h1] at h0; exact h0
    refine ⟨h01, ?_⟩
    rw [hp2] at h0
    unfold sDl sNum at h0 ⊢
    split at h0
    · exact absurd h0 (sFail_ne (by decide))
    · rw [if_neg (by assumption)]; exact ⟨rfl, by omega⟩
  have hres0 : p2.2 ≠ 0 → sPr vregs regs slots (first, q) p = (pr0, p2) ∧ stP vregs (first, q) p pr0 = (first, q) := by
    intro h0
    unfold sPr stP
    dsimp only
    rw [← hp1, ← hp2]
    exact ⟨if_pos h0, if_pos h0⟩
  have hres1 : p2.2 = 0 → ∀ x, mkPr (first, q) (sUint maxU p).1 (sUint maxU p1).1 = x → sPr vregs regs slots (first, q) p = (x, if inRange x.l regs slots then p2 else sFail 10 p2) ∧ stP vregs (first, q) p x = (false, x) := by
    intro h0 x hx
    obtain ⟨h01, h02, _⟩ := hst2 h0
    obtain ⟨h03, _⟩ := hst1 h01
    subst hx
    unfold sPr stP
    dsimp only
    rw [← hp1, ← hp2]
    refine ⟨?_, if_neg (by rw [h0]; simp)⟩
    rw [if_neg (by rw [h0]; simp), h02, h03]
  unfold decL prO blO
  dsimp only
  refine fn_of follows [] Try.func63 rfl rfl fun E hE => ?_
  repeat' ((fail_if_success with_reducible refine Stop.mk ?_); (conv => whnf); with_reducible first | refine br_t ?_ | refine br_f ?_ | refine br_nn ?_ | refine br_ns ?_ | refine br_not ?_ | refine br_d (fun h => ?_) (fun h => ?_) | refine br_e (fun h => ?_) (fun h => ?_) | refine br_n (fun h => ?_) (fun h => ?_) | refine drw (by kernel_rfl) ?_ | refine chk (by kernel_rfl) ?_ | refine stop ?_)
  all_goals refine Stop.mk ?_
  refine call_fn [0] (puint_fn maxU hC) rfl ⟨rfl, trivial⟩ (by decide) ?_
  rintro sv H' G' ⟨rfl, rfl, rfl⟩ -
  refine ⟨Nat.le_of_ble_eq_true rfl, ?_⟩
  repeat' ((fail_if_success with_reducible refine Stop.mk ?_); (conv => whnf); with_reducible first | refine br_t ?_ | refine br_f ?_ | refine br_nn ?_ | refine br_ns ?_ | refine br_not ?_ | refine br_d (fun h => ?_) (fun h => ?_) | refine br_e (fun h => ?_) (fun h => ?_) | refine br_n (fun h => ?_) (fun h => ?_) | refine drw (by kernel_rfl) ?_ | refine chk (by kernel_rfl) ?_ | refine stop ?_)
  all_goals refine Stop.mk ?_
  all_goals rw [hw, hw2] at h
  all_goals try
    refine call_fn [0] (pfail_fn 9 (p := (sUint maxU p).2)) rfl ⟨rfl, trivial⟩ (by decide) ?_
    rintro sv H' G' ⟨rfl, rfl, rfl⟩ -
    refine ⟨Nat.le_of_ble_eq_true rfl, ?_⟩
    have hp1' : sFail 9 (sUint maxU p).2 = p1 := by rw [hp1]; unfold sDv sNum; rw [if_pos (by exact h)]
    have hd1 : p1.2 ≠ 0 := hp1' ▸ sFail_ne (by decide)
    rw [hp1']
    clear h
    repeat' ((fail_if_success with_reducible refine Stop.mk ?_); (conv => whnf); with_reducible first | refine br_t ?_ | refine br_f ?_ | refine br_nn ?_ | refine br_ns ?_ | refine br_not ?_ | refine br_d (fun h => ?_) (fun h => ?_) | refine br_e (fun h => ?_) (fun h => ?_) | refine br_n (fun h => ?_) (fun h => ?_) | refine drw (by kernel_rfl) ?_ | refine chk (by kernel_rfl) ?_ | refine stop ?_)
    all_goals refine Stop.mk ?_
  all_goals try
    have hp1' : (sUint maxU p).2 = p1 := by rw [hp1]; unfold sDv sNum; rw [if_neg (by exact h)]
    rw [hp1']
    clear h
  all_goals
    clear hp1'
    refine call_fn [0] (puint_fn maxU hc1) rfl ⟨rfl, trivial⟩ (by decide) ?_
    rintro sv H' G' ⟨rfl, rfl, rfl⟩ -
    refine ⟨Nat.le_of_ble_eq_true rfl, ?_⟩
    repeat' ((fail_if_success with_reducible refine Stop.mk ?_); (conv => whnf); with_reducible first | refine br_t ?_ | refine br_f ?_ | refine br_nn ?_ | refine br_ns ?_ | refine br_not ?_ | refine br_d (fun h => ?_) (fun h => ?_) | refine br_e (fun h => ?_) (fun h => ?_) | refine br_n (fun h => ?_) (fun h => ?_) | refine drw (by kernel_rfl) ?_ | refine chk (by kernel_rfl) ?_ | refine stop ?_)
    all_goals refine Stop.mk ?_
  all_goals try
    refine call_fn [0] (pfail_fn 10 (p := (sUint maxU p1).2)) rfl ⟨rfl, trivial⟩ (by decide) ?_
    rintro sv H' G' ⟨rfl, rfl, rfl⟩ -
    refine ⟨Nat.le_of_ble_eq_true rfl, ?_⟩
    have hp2' : sFail 10 (sUint maxU p1).2 = p2 := by rw [hp2]; unfold sDl sNum; rw [if_pos (by omega)]
    have hd2 : p2.2 ≠ 0 := hp2' ▸ sFail_ne (by decide)
    rw [hp2']
    clear h
    repeat' ((fail_if_success with_reducible refine Stop.mk ?_); (conv => whnf); with_reducible first | refine br_t ?_ | refine br_f ?_ | refine br_nn ?_ | refine br_ns ?_ | refine br_not ?_ | refine br_d (fun h => ?_) (fun h => ?_) | refine br_e (fun h => ?_) (fun h => ?_) | refine br_n (fun h => ?_) (fun h => ?_) | refine drw (by kernel_rfl) ?_ | refine chk (by kernel_rfl) ?_ | refine stop ?_)
    all_goals refine Stop.mk ?_
  all_goals try
    have hp2' : (sUint maxU p1).2 = p2 := by rw [hp2]; unfold sDl sNum; rw [if_neg (by omega)]
    rw [hp2']
    clear h
  all_goals
    clear hp2'
    refine call_fn [0] (perr_fn (p := p2)) rfl ⟨rfl, trivial⟩ (by decide) ?_
    rintro sv H' G' ⟨rfl, rfl, rfl⟩ -
    refine ⟨Nat.le_of_ble_eq_true rfl, ?_⟩
    repeat' ((fail_if_success with_reducible refine Stop.mk ?_); (conv => whnf); with_reducible first | refine br_t ?_ | refine br_f ?_ | refine br_nn ?_ | refine br_ns ?_ | refine br_not ?_ | refine br_d (fun h => ?_) (fun h => ?_) | refine br_e (fun h => ?_) (fun h => ?_) | refine br_n (fun h => ?_) (fun h => ?_) | refine drw (by kernel_rfl) ?_ | refine chk (by kernel_rfl) ?_ | refine stop ?_)
    all_goals refine Stop.mk ?_
  all_goals try
    obtain ⟨e1, e2⟩ := hres0 (by assumption)
    refine fin_id hE 7 rfl rfl rfl rfl ⟨?_, ?_, rfl⟩
    · rw [e1]; rfl
    · rw [e1]; dsimp only; rw [e2]; rfl
  all_goals try exact absurd (hst2 (by assumption)).1 (by assumption)
  all_goals try exact absurd (by assumption) hd2
  have h00 : p2.2 = 0 := by assumption
  obtain ⟨h01, h02, h03⟩ := hst2 h00
  obtain ⟨h04, h05⟩ := hst1 h01
  replace hres1 := hres1 h00
  clear hres0 hst1 hst2 h02 h04 hp1 hp2 hc1 hcu hcu2 hC
  generalize (sUint maxU p).1 = dv at *
  generalize (sUint maxU p1).1 = dl at *
  have hw3 : IntKind.i64.wrap dl = dl := i64_in (by omega) (by omega)
  have hw4 : IntKind.i64.wrap dv = dv := i64_in (by omega) (by omega)
  have hw5 : IntKind.i64.wrap (dl + 1) = dl + 1 := i64_in (by omega) (by omega)
  have hw6 : IntKind.i64.wrap (q.l + (dl + 1)) = q.l + (dl + 1) := i64_in (by omega) (by omega)
  have hw7 : IntKind.i64.wrap (q.v + dv) = q.v + dv := i64_in (by omega) (by omega)
  cases first
  all_goals
    repeat' ((fail_if_success with_reducible refine Stop.mk ?_); (conv => whnf); with_reducible first | refine br_t ?_ | refine br_f ?_ | refine br_nn ?_ | refine br_ns ?_ | refine br_not ?_ | refine br_d (fun h => ?_) (fun h => ?_) | refine br_e (fun h => ?_) (fun h => ?_) | refine br_n (fun h => ?_) (fun h => ?_) | refine drw (by kernel_rfl) ?_ | refine chk (by kernel_rfl) ?_ | refine stop ?_)
    all_goals refine Stop.mk ?_
  all_goals try rw [hw3]
  all_goals try rw [hw4]
  all_goals try rw [hw5]
  all_goals try rw [hw6]
  all_goals try rw [hw7]
  all_goals
    refine call_fn [] (inRange_fn _ _ regs slots (by unfold in64; omega)) rfl trivial (by decide) ?_
    rintro sv H' G' ⟨rfl, rfl, rfl⟩ -
    refine ⟨Nat.le_of_ble_eq_true rfl, ?_⟩
    repeat' ((fail_if_success with_reducible refine Stop.mk ?_); (conv => whnf); with_reducible first | refine br_t ?_ | refine br_f ?_ | refine br_nn ?_ | refine br_ns ?_ | refine br_not ?_ | refine br_d (fun h => ?_) (fun h => ?_) | refine br_e (fun h => ?_) (fun h => ?_) | refine br_n (fun h => ?_) (fun h => ?_) | refine drw (by kernel_rfl) ?_ | refine chk (by kernel_rfl) ?_ | refine stop ?_)
    all_goals refine Stop.mk ?_
  all_goals try
    refine call_fn [0] (pfail_fn 10 (p := p2)) rfl ⟨rfl, trivial⟩ (by decide) ?_
    rintro sv H' G' ⟨rfl, rfl, rfl⟩ -
    refine ⟨Nat.le_of_ble_eq_true rfl, ?_⟩
    repeat' ((fail_if_success with_reducible refine Stop.mk ?_); (conv => whnf); with_reducible first | refine br_t ?_ | refine br_f ?_ | refine br_nn ?_ | refine br_ns ?_ | refine br_not ?_ | refine br_d (fun h => ?_) (fun h => ?_) | refine br_e (fun h => ?_) (fun h => ?_) | refine br_n (fun h => ?_) (fun h => ?_) | refine drw (by kernel_rfl) ?_ | refine chk (by kernel_rfl) ?_ | refine stop ?_)
    all_goals refine Stop.mk ?_
  all_goals
    refine fin_id hE 7 rfl rfl rfl rfl ?_
    have e0 := hres1 _ rfl
    first
      | rw [mkPr_t] at e0
      | (have hnz : dv ≠ 0 := by omega
         rw [mkPr_1 q dv dl hnz] at e0)
      | (have hnz : dv = 0 := by omega
         rw [mkPr_2 q dv dl hnz] at e0)
    obtain ⟨e1, e2⟩ := e0
    dsimp only at e1 e2
    first
      | rw [if_pos (by assumption)] at e1
      | rw [if_neg (by assumption)] at e1
    rw [e1]
    dsimp only
    rw [e2]
    exact ⟨rfl, rfl, rfl⟩
end Go.Proofs.Ytgdfhpknhcjipaa.Cu
