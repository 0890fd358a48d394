/- Edges: the program's check of invariants, exactly. -/
import Derived.Test.YtglelcgllodhoaaEd1
namespace Go.Proofs.Ytglelcgllodhoaa.Cu
open Go Go.SX Go.Proofs.Ytglelcgllodhoaa.VT
set_option maxRecDepth 100000
set_option linter.unusedVariables false
set_option linter.unusedSimpArgs false
set_option maxHeartbeats 8000000 in
theorem edgeValid_fn (G : Gh) (A : Option Addr) (c : Nat) (l : List (List Pr)) (blocks vregs regs slots : Int) (hl : kPrs.S G A c l) (h1 : l.length ≤ 1000000) (h2 : tot l ≤ 1000000000) :
    Ct Try.prog 9 [.v (.slice A l.length c), .v (.int .i64 blocks), .v (.int .i64 vregs), .v (.int .i64 regs), .v (.int .i64 slots)] [] G fun sv H' G' => sv = .v (.int .i64 (eInv blocks vregs regs slots l)) ∧ H' = [] ∧ G' = G := by
  refine fn_of follows [] Try.func9 rfl rfl fun E hE => ?_
  have hcap := hl.cap
  have hef : eInv blocks vregs regs slots l = if (l.length : Int) ≠ blocks then 14 else if tot l > 1048576 then 6 else first0 (ePrs vregs regs slots) l := rfl
  repeat' ((fail_if_success with_reducible refine Stop.mk ?_); (conv => whnf); with_reducible first | refine br_t ?_ | refine br_f ?_ | refine br_nn ?_ | refine br_ns ?_ | refine br_not ?_ | refine br_d (fun h => ?_) (fun h => ?_) | refine br_e (fun h => ?_) (fun h => ?_) | refine br_n (fun h => ?_) (fun h => ?_) | refine drw (by kernel_rfl) ?_ | refine chk (by kernel_rfl) ?_ | refine stop ?_)
  all_goals refine Stop.mk ?_
  rotate_left
  · refine fin_id hE 0 rfl rfl rfl rfl ⟨congrArg (fun e => SV.v (.int .i64 e)) ?_, rfl, rfl⟩
    rw [hef, if_pos (by assumption)]
  refine call_fn [] (etotal_fn _ A c l hl h1 h2) rfl trivial (by decide) ?_
  rintro sv H' G' ⟨rfl, rfl, rfl⟩ -
  refine ⟨Nat.le_of_ble_eq_true rfl, ?_⟩
  have hne : ¬ (l.length : Int) ≠ blocks := by omega
  rw [if_neg hne] at hef
  repeat' ((fail_if_success with_reducible refine Stop.mk ?_); (conv => whnf); with_reducible first | refine br_t ?_ | refine br_f ?_ | refine br_nn ?_ | refine br_ns ?_ | refine br_not ?_ | refine br_d (fun h => ?_) (fun h => ?_) | refine br_e (fun h => ?_) (fun h => ?_) | refine br_n (fun h => ?_) (fun h => ?_) | refine drw (by kernel_rfl) ?_ | refine chk (by kernel_rfl) ?_ | refine stop ?_)
  all_goals refine Stop.mk ?_
  · refine fin_id hE 0 rfl rfl rfl rfl ⟨congrArg (fun e => SV.v (.int .i64 e)) ?_, rfl, rfl⟩
    rw [hef, if_pos (by omega)]
  have hbase : IBase blocks l := ⟨by omega, by omega⟩
  clear hef
  refine loop_vars follows [] (α := Nat) (fun k => [(25, .v (.int .i64 k))]) (fun x => []) (fun x => G') (fun k => k ≤ l.length ∧ ∀ j, j < k → eAt (ePrs vregs regs slots) l j = 0) (fun k => l.length - k) 0
    ⟨Nat.zero_le _, fun j h => absurd h (Nat.not_lt_zero _)⟩ rfl rfl ?_ ?_
  ·
    refine ⟨?_⟩
    (conv => whnf)
    (repeat' (first | exact trivial | exact .inl rfl | exact .inr rfl | refine And.intro ?_ ?_))
  intro k hI
  obtain ⟨hk, hall⟩ := hI
  have hw2 : IntKind.i64.wrap ((k : Int) + 1) = ((k + 1 : Nat) : Int) := by rw [i64_in (by omega) (by omega)]; simp
  repeat' ((fail_if_success with_reducible refine Stop.mk ?_); (conv => whnf); with_reducible first | refine br_t ?_ | refine br_f ?_ | refine br_nn ?_ | refine br_ns ?_ | refine br_not ?_ | refine br_d (fun h => ?_) (fun h => ?_) | refine br_e (fun h => ?_) (fun h => ?_) | refine br_n (fun h => ?_) (fun h => ?_) | refine drw (by kernel_rfl) ?_ | refine chk (by kernel_rfl) ?_ | refine stop ?_)
  all_goals refine Stop.mk ?_
  ·
    obtain ⟨_, hs_, hat_⟩ := hl.at (sz := 1) rfl
    refine ⟨⟨by omega, by omega⟩, _, hs_, fun ad had hadr => ?_⟩
    obtain ⟨ps, cells, hps, hRps, hGps⟩ := hat_ k (by omega) ad (by first | exact had | (rw [Int.toNat_natCast] at had; exact had))
    clear had hat_ hs_
    obtain ⟨A', c', rfl, hS⟩ := kPrs_R hRps
    have hpl : ps.length ≤ tot l := by
      have h3 := tot_take l k ps hps
      have h4 := tot_le l (k + 1)
      omega
    have hat := eInv_at (vregs := vregs) (regs := regs) (slots := slots) hbase hps hall
    repeat' ((fail_if_success with_reducible refine Stop.mk ?_); (conv => whnf); with_reducible first | refine br_t ?_ | refine br_f ?_ | refine br_nn ?_ | refine br_ns ?_ | refine br_not ?_ | refine br_d (fun h => ?_) (fun h => ?_) | refine br_e (fun h => ?_) (fun h => ?_) | refine br_n (fun h => ?_) (fun h => ?_) | refine drw (by kernel_rfl) ?_ | refine chk (by kernel_rfl) ?_ | refine stop ?_)
    all_goals refine Stop.mk ?_
    refine ⟨_, ld1 hGps, ?_⟩
    repeat' ((fail_if_success with_reducible refine Stop.mk ?_); (conv => whnf); with_reducible first | refine br_t ?_ | refine br_f ?_ | refine br_nn ?_ | refine br_ns ?_ | refine br_not ?_ | refine br_d (fun h => ?_) (fun h => ?_) | refine br_e (fun h => ?_) (fun h => ?_) | refine br_n (fun h => ?_) (fun h => ?_) | refine drw (by kernel_rfl) ?_ | refine chk (by kernel_rfl) ?_ | refine stop ?_)
    all_goals refine Stop.mk ?_
    refine call_fn [] (epairs_fn _ A' c' ps vregs regs slots hS (by omega)) rfl trivial (by decide) ?_
    rintro sv H' G' ⟨rfl, rfl, rfl⟩ -
    refine ⟨Nat.le_of_ble_eq_true rfl, ?_⟩
    generalize hep : ePrs vregs regs slots ps = e at *
    repeat' ((fail_if_success with_reducible refine Stop.mk ?_); (conv => whnf); with_reducible first | refine br_t ?_ | refine br_f ?_ | refine br_nn ?_ | refine br_ns ?_ | refine br_not ?_ | refine br_d (fun h => ?_) (fun h => ?_) | refine br_e (fun h => ?_) (fun h => ?_) | refine br_n (fun h => ?_) (fun h => ?_) | refine drw (by kernel_rfl) ?_ | refine chk (by kernel_rfl) ?_ | refine stop ?_)
    all_goals refine Stop.mk ?_
    rotate_left
    · refine fin_id hE 0 rfl rfl rfl rfl ⟨congrArg (fun e => SV.v (.int .i64 e)) ?_, rfl, rfl⟩
      rw [hat (by assumption)]
    · have he0 : e = 0 := by omega
      rw [hw2]
      refine tell_here ⟨k + 1, ⟨by omega, eAtS_next hps hall (by rw [hep]; exact he0)⟩, by show l.length - (k + 1) < l.length - k; omega, rfl, rfl, ?_⟩
      refine ⟨?_⟩
      (conv => whnf)
      (repeat' (first | exact trivial | exact .inl rfl | exact .inr rfl | refine And.intro ?_ ?_))
  · have hkl : k = l.length := by omega
    subst hkl
    exact fin_id hE 0 rfl rfl rfl rfl ⟨by rw [eInv_zero hbase hall], rfl, rfl⟩
end Go.Proofs.Ytglelcgllodhoaa.Cu
