/- Edges: what is known at the entry; awake of law15. -/
import Derived.Test.YtglelcgllodhoaaEd2
namespace Go.Proofs.Ytglelcgllodhoaa.Cu
open Go Go.SX Go.Proofs.Ytglelcgllodhoaa.VT
set_option maxRecDepth 100000
set_option linter.unusedVariables false
set_option linter.unusedSimpArgs false
def slotP (v : Int) : Int := IntKind.i64.wrap (IntKind.i64.wrap (2 * v) + 1)
theorem slot_fn (G : Gh) (v : Int) : Ct Try.prog 31 [.v (.int .i64 v)] [] G fun sv H' G' => sv = .v (.int .i64 (slotP v)) ∧ H' = [] ∧ G' = G := by
  refine fn_of follows [] Try.func31 rfl rfl fun E hE => ?_
  repeat' ((fail_if_success with_reducible refine Stop.mk ?_); (conv => whnf); with_reducible first | refine br_t ?_ | refine br_f ?_ | refine br_nn ?_ | refine br_ns ?_ | refine br_not ?_ | refine br_d (fun h => ?_) (fun h => ?_) | refine br_e (fun h => ?_) (fun h => ?_) | refine br_n (fun h => ?_) (fun h => ?_) | refine drw (by kernel_rfl) ?_ | refine chk (by kernel_rfl) ?_ | refine stop ?_)
  all_goals refine Stop.mk ?_
  exact fin_id hE 0 rfl rfl rfl rfl ⟨rfl, rfl, rfl⟩
/-- What holds ahead of the first instruction. -/
def iniP (n : Int) (p : Pr) : Bool := if p.v < n then decide (p.l = slotP p.v) else !decide (isSlot p.l) || decide (p.l / 2 ≥ n)
theorem einit_fn (G : Gh) (p : Pr) (n : Int) (h : in64 p.l) : Ct Try.prog 12 [p.sv, .v (.int .i64 n)] [] G fun sv H' G' => sv = .v (.bool (iniP n p)) ∧ H' = [] ∧ G' = G := by
  obtain ⟨h1, h2⟩ := h
  refine fn_of follows [(2, (.cons 0 [] (.cons 1 [] (.cons 2 [] (.cons 3 [] (.cons 4 [3] (.cons 5 [] (.cons 6 [] .nil))))))))] Try.func12 rfl rfl fun E hE => ?_
  unfold Pr.sv
  repeat' ((fail_if_success with_reducible refine Stop.mk ?_); (conv => whnf); with_reducible first | refine br_t ?_ | refine br_f ?_ | refine br_nn ?_ | refine br_ns ?_ | refine br_not ?_ | refine br_d (fun h => ?_) (fun h => ?_) | refine br_e (fun h => ?_) (fun h => ?_) | refine br_n (fun h => ?_) (fun h => ?_) | refine drw (by kernel_rfl) ?_ | refine chk (by kernel_rfl) ?_ | refine stop ?_)
  all_goals refine Stop.mk ?_
  · refine call_fn [] (slot_fn _ p.v) rfl trivial (by decide) ?_
    rintro sv H' G' ⟨rfl, rfl, rfl⟩ -
    refine ⟨Nat.le_of_ble_eq_true rfl, ?_⟩
    repeat' ((fail_if_success with_reducible refine Stop.mk ?_); (conv => whnf); with_reducible first | refine br_t ?_ | refine br_f ?_ | refine br_nn ?_ | refine br_ns ?_ | refine br_not ?_ | refine br_d (fun h => ?_) (fun h => ?_) | refine br_e (fun h => ?_) (fun h => ?_) | refine br_n (fun h => ?_) (fun h => ?_) | refine drw (by kernel_rfl) ?_ | refine chk (by kernel_rfl) ?_ | refine stop ?_)
    all_goals refine Stop.mk ?_
    refine fin_id hE 0 rfl rfl rfl rfl ⟨congrArg (fun b => SV.v (.bool b)) ?_, rfl, rfl⟩
    unfold iniP
    rw [if_pos (by assumption)]
    exact bdec (by rw [beq_iff_eq])
  · refine call_fn [] (isSlot_fn _ p.l) rfl trivial (by decide) ?_
    rintro sv H' G' ⟨rfl, rfl, rfl⟩ -
    refine ⟨Nat.le_of_ble_eq_true rfl, ?_⟩
    have hn : ¬ p.v < n := by assumption
    by_cases hs : isSlot p.l
    · have hp : 0 ≤ p.l := by
        unfold isSlot at hs
        rcases Int.lt_or_le p.l 0 with h9 | h9
        · have h8 := Int.neg_tmod (-p.l) 2
          rw [Int.neg_neg] at h8
          have h7 := Int.tmod_nonneg 2 (show 0 ≤ -p.l by omega)
          omega
        · exact h9
      rw [decide_eq_true hs]
      repeat' ((fail_if_success with_reducible refine Stop.mk ?_); (conv => whnf); with_reducible first | refine br_t ?_ | refine br_f ?_ | refine br_nn ?_ | refine br_ns ?_ | refine br_not ?_ | refine br_d (fun h => ?_) (fun h => ?_) | refine br_e (fun h => ?_) (fun h => ?_) | refine br_n (fun h => ?_) (fun h => ?_) | refine drw (by kernel_rfl) ?_ | refine chk (by kernel_rfl) ?_ | refine stop ?_)
      all_goals refine Stop.mk ?_
      refine call_fn [] (index_fn _ p.l ⟨hp, h2⟩) rfl trivial (by decide) ?_
      rintro sv H' G' ⟨rfl, rfl, rfl⟩ -
      refine ⟨Nat.le_of_ble_eq_true rfl, ?_⟩
      repeat' ((fail_if_success with_reducible refine Stop.mk ?_); (conv => whnf); with_reducible first | refine br_t ?_ | refine br_f ?_ | refine br_nn ?_ | refine br_ns ?_ | refine br_not ?_ | refine br_d (fun h => ?_) (fun h => ?_) | refine br_e (fun h => ?_) (fun h => ?_) | refine br_n (fun h => ?_) (fun h => ?_) | refine drw (by kernel_rfl) ?_ | refine chk (by kernel_rfl) ?_ | refine stop ?_)
      all_goals refine Stop.mk ?_
      refine fin_id hE 0 rfl rfl rfl rfl ⟨congrArg (fun b => SV.v (.bool b)) ?_, rfl, rfl⟩
      unfold iniP
      rw [if_neg hn, decide_eq_true hs]
      rfl
    · rw [decide_eq_false hs]
      repeat' ((fail_if_success with_reducible refine Stop.mk ?_); (conv => whnf); with_reducible first | refine br_t ?_ | refine br_f ?_ | refine br_nn ?_ | refine br_ns ?_ | refine br_not ?_ | refine br_d (fun h => ?_) (fun h => ?_) | refine br_e (fun h => ?_) (fun h => ?_) | refine br_n (fun h => ?_) (fun h => ?_) | refine drw (by kernel_rfl) ?_ | refine chk (by kernel_rfl) ?_ | refine stop ?_)
      all_goals refine Stop.mk ?_
      refine fin_id hE 0 rfl rfl rfl rfl ⟨congrArg (fun b => SV.v (.bool b)) ?_, rfl, rfl⟩
      unfold iniP
      rw [if_neg hn, decide_eq_false hs]
      rfl
/-- The first pair that does not hold at the entry. -/
def entryP (n : Int) (l : List Pr) : Pr × Int := match l.find? (fun p => !iniP n p) with
  | some p => (p, 23)
  | none => (⟨0, 0⟩, 0)
set_option maxHeartbeats 8000000 in
theorem entry_fn (G : Gh) (A : Option Addr) (c : Nat) (l : List Pr) (n : Int) (hl : kPr.S G A c l) :
    Ct Try.prog 18 [.v (.slice A l.length c), .v (.int .i64 n)] [] G fun sv H' G' => sv = .tup [(entryP n l).1.sv, .v (.int .i64 (entryP n l).2)] ∧ H' = [] ∧ G' = G := by
  refine fn_of follows [] Try.func18 rfl rfl fun E hE => ?_
  have hcap := hl.cap
  repeat' ((fail_if_success with_reducible refine Stop.mk ?_); (conv => whnf); with_reducible first | refine br_t ?_ | refine br_f ?_ | refine br_nn ?_ | refine br_ns ?_ | refine br_not ?_ | refine br_d (fun h => ?_) (fun h => ?_) | refine br_e (fun h => ?_) (fun h => ?_) | refine br_n (fun h => ?_) (fun h => ?_) | refine drw (by kernel_rfl) ?_ | refine chk (by kernel_rfl) ?_ | refine stop ?_)
  all_goals refine Stop.mk ?_
  refine loop_vars follows [] (α := Nat) (fun k => [(10, .v (.int .i64 k))]) (fun x => [.cells 25 [.v (.int .i64 0), .v (.int .i64 0)]]) (fun x => G) (fun k => k ≤ l.length ∧ (l.take k).find? (fun p => !iniP n p) = none) (fun k => l.length - k) 0
    ⟨Nat.zero_le _, rfl⟩ rfl rfl ?_ ?_
  ·
    refine ⟨?_⟩
    (conv => whnf)
    (repeat' (first | exact trivial | exact .inl rfl | exact .inr rfl | refine And.intro ?_ ?_))
  intro k hI
  obtain ⟨hk, hall⟩ := hI
  have hw2 : k < l.length → IntKind.i64.wrap ((k : Int) + 1) = ((k + 1 : Nat) : Int) := fun h => by rw [i64_in (by omega) (by omega)]; simp
  repeat' ((fail_if_success with_reducible refine Stop.mk ?_); (conv => whnf); with_reducible first | refine br_t ?_ | refine br_f ?_ | refine br_nn ?_ | refine br_ns ?_ | refine br_not ?_ | refine br_d (fun h => ?_) (fun h => ?_) | refine br_e (fun h => ?_) (fun h => ?_) | refine br_n (fun h => ?_) (fun h => ?_) | refine drw (by kernel_rfl) ?_ | refine chk (by kernel_rfl) ?_ | refine stop ?_)
  all_goals refine Stop.mk ?_
  ·
    obtain ⟨_, hs_, hat_⟩ := hl.at (sz := 2) rfl
    refine ⟨⟨by omega, by omega⟩, _, hs_, fun ad had hadr => ?_⟩
    obtain ⟨p, cells, hp, hRp, hGp⟩ := hat_ k (by omega) ad (by first | exact had | (rw [Int.toNat_natCast] at had; exact had))
    clear had hat_ hs_
    obtain ⟨rfl, hp1, hp2⟩ := hRp
    have hkl : k < l.length := by omega
    have hdr : l.find? (fun p => !iniP n p) = if iniP n p = false then some p else (l.drop (k + 1)).find? (fun p => !iniP n p) := by
      conv => lhs; rw [← List.take_append_drop k l]
      rw [List.find?_append, hall, Option.none_or, List.drop_eq_getElem_cons hkl, (List.getElem?_eq_some_iff.1 hp).2, List.find?_cons]
      cases iniP n p <;> rfl
    repeat' ((fail_if_success with_reducible refine Stop.mk ?_); (conv => whnf); with_reducible first | refine br_t ?_ | refine br_f ?_ | refine br_nn ?_ | refine br_ns ?_ | refine br_not ?_ | refine br_d (fun h => ?_) (fun h => ?_) | refine br_e (fun h => ?_) (fun h => ?_) | refine br_n (fun h => ?_) (fun h => ?_) | refine drw (by kernel_rfl) ?_ | refine chk (by kernel_rfl) ?_ | refine stop ?_)
    all_goals refine Stop.mk ?_
    refine ⟨_, rfl, hGp, ?_⟩
    repeat' ((fail_if_success with_reducible refine Stop.mk ?_); (conv => whnf); with_reducible first | refine br_t ?_ | refine br_f ?_ | refine br_nn ?_ | refine br_ns ?_ | refine br_not ?_ | refine br_d (fun h => ?_) (fun h => ?_) | refine br_e (fun h => ?_) (fun h => ?_) | refine br_n (fun h => ?_) (fun h => ?_) | refine drw (by kernel_rfl) ?_ | refine chk (by kernel_rfl) ?_ | refine stop ?_)
    all_goals refine Stop.mk ?_
    refine call_fn [] (einit_fn _ p n hp2) rfl trivial (by decide) ?_
    rintro sv H' G' ⟨rfl, rfl, rfl⟩ -
    refine ⟨Nat.le_of_ble_eq_true rfl, ?_⟩
    cases hi : iniP n p
    · rw [if_pos hi] at hdr
      repeat' ((fail_if_success with_reducible refine Stop.mk ?_); (conv => whnf); with_reducible first | refine br_t ?_ | refine br_f ?_ | refine br_nn ?_ | refine br_ns ?_ | refine br_not ?_ | refine br_d (fun h => ?_) (fun h => ?_) | refine br_e (fun h => ?_) (fun h => ?_) | refine br_n (fun h => ?_) (fun h => ?_) | refine drw (by kernel_rfl) ?_ | refine chk (by kernel_rfl) ?_ | refine stop ?_)
      all_goals refine Stop.mk ?_
      refine fin_id hE 0 rfl rfl rfl rfl ⟨?_, rfl, rfl⟩
      unfold entryP
      rw [hdr]
      rfl
    ·
      repeat' ((fail_if_success with_reducible refine Stop.mk ?_); (conv => whnf); with_reducible first | refine br_t ?_ | refine br_f ?_ | refine br_nn ?_ | refine br_ns ?_ | refine br_not ?_ | refine br_d (fun h => ?_) (fun h => ?_) | refine br_e (fun h => ?_) (fun h => ?_) | refine br_n (fun h => ?_) (fun h => ?_) | refine drw (by kernel_rfl) ?_ | refine chk (by kernel_rfl) ?_ | refine stop ?_)
      all_goals refine Stop.mk ?_
      rw [hw2 hkl]
      refine tell_gc hE [0] rfl rfl ?_
      (conv => whnf)
      refine tell_here ⟨k + 1, ⟨by omega, ?_⟩, by show l.length - (k + 1) < l.length - k; omega, rfl, rfl, ?_⟩
      · rw [List.take_add_one, List.find?_append, hall, hp]
        simp [hi]
      ·
        refine ⟨?_⟩
        (conv => whnf)
        (repeat' (first | exact trivial | exact .inl rfl | exact .inr rfl | refine And.intro ?_ ?_))
  · have hkl : k = l.length := by omega
    subst hkl
    rw [List.take_length] at hall
    refine fin_id hE 0 rfl rfl rfl rfl ⟨?_, rfl, rfl⟩
    unfold entryP
    rw [hall]
    rfl
end Go.Proofs.Ytglelcgllodhoaa.Cu
