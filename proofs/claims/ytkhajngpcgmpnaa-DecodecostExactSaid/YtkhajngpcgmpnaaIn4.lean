/- Instructions of machines and terminators: what is read. -/
import Derived.Test.YtkhajngpcgmpnaaInx
namespace Go.Proofs.Ytkhajngpcgmpnaa.Cu
open Go Go.SX Go.Proofs.Ytkhajngpcgmpnaa.VT
set_option maxRecDepth 100000
set_option linter.unusedVariables false
set_option linter.unusedSimpArgs false

/-- The two locations of a move. -/
def sMove (regs slots : Int) (p : Ps) : (Int × Int) × Ps :=
  let d := sPlace regs slots p
  let s := sPlace regs slots d.2
  ((d.1, s.1), if isSlot d.1 ∧ isSlot s.1 then sFail 10 s.2 else s.2)
theorem sMove_suf (regs slots : Int) (p : Ps) : (sMove regs slots p).2.1 <:+ p.1 := by
  unfold sMove; simp only; split
  · exact (sPlace_suf _ _ _).trans (sPlace_suf _ _ _)
  · exact (sPlace_suf _ _ _).trans (sPlace_suf _ _ _)
def mac0 : Mac := ⟨0, 0, 0, 0, 0, 0, 0⟩
def sMac (regs slots : Int) (p : Ps) : Mac × Ps :=
  let b := sFirst machOp 8 p
  if b.1 = 18 then
    let m := sMove regs slots b.2
    (if m.2.2 = 0 then ⟨b.1, 0, 0, 0, 0, m.1.1, m.1.2⟩ else mac0, m.2)
  else
    let f := sFlds b.1 regs b.2
    (if f.2.2 = 0 then ⟨b.1, f.1.1, f.1.2.1, f.1.2.2.1, f.1.2.2.2, 0, 0⟩ else mac0, f.2)
theorem sMac_suf (regs slots : Int) (p : Ps) : (sMac regs slots p).2.1 <:+ p.1 := by
  unfold sMac; simp only; split
  · exact (sMove_suf _ _ _).trans (sFirst_suf _ _ _)
  · exact (sFlds_suf _ _ _).trans (sFirst_suf _ _ _)
set_option maxHeartbeats 8000000 in
theorem mach_m {G : Gh} {A : Option Addr} {bs : List Int} {c : Nat} {p : Ps} (regs slots : Int) (h : CurOK G A c bs p) (hr : 0 ≤ regs ∧ regs ≤ 9223372036854775807) (hcase : (sByte p).1 = 18) :
    Ct Try.prog 53 [.p 0 0, .v (.int .i64 regs), .v (.int .i64 slots)] [curL A bs c p] G fun sv H' G' => sv = (sMac regs slots p).1.sv ∧ H' = [curL A bs c (sMac regs slots p).2] ∧ G' = G := by
  have hbr := sByte_range h.isb
  obtain ⟨op, hop⟩ : ∃ op, op = (sByte p).1 := ⟨_, rfl⟩
  rw [← hop] at hcase
  obtain ⟨q, hq⟩ : ∃ q, q = (sFirst machOp 8 p).2 := ⟨_, rfl⟩
  have hc : CurOK G A c bs q := hq ▸ h.next (sFirst_suf _ _ _)
  have hop1 : (sFirst machOp 8 p).1 = op := hop.symm
  have hfin : ∀ d s r, sMove regs slots q = ((d, s), r) → sMac regs slots p = (if r.2 = 0 then ⟨op, 0, 0, 0, 0, d, s⟩ else mac0, r) := by
    intro d s r hf
    simp only [sMac, hop1, ← hq, hf, if_pos hcase]
  have hmv : sMove regs slots q = sMove regs slots q := rfl
  conv at hmv => rhs; unfold sMove
  generalize sMove regs slots q = mv at hmv hfin
  dsimp only at hmv
  refine fn_of follows [(14, (.cons 0 [] (.cons 1 [] (.cons 2 [] (.cons 3 [] (.cons 4 [] (.cons 5 [] (.cons 6 [] (.cons 7 [] (.cons 8 [] (.cons 9 [1] .nil)))))))))))] Try.func53 rfl rfl fun E hE => ?_
  repeat' ((fail_if_success with_reducible refine Stop.mk ?_); (conv => whnf); with_reducible first | refine br_t ?_ | refine br_f ?_ | refine br_nn ?_ | refine br_ns ?_ | refine br_not ?_ | refine br_d (fun h => ?_) (fun h => ?_) | refine br_e (fun h => ?_) (fun h => ?_) | refine br_n (fun h => ?_) (fun h => ?_) | refine drw (by kernel_rfl) ?_ | refine chk (by kernel_rfl) ?_ | refine stop ?_)
  all_goals refine Stop.mk ?_
  refine call_fn [0] (pbyte_fn h) rfl ⟨rfl, trivial⟩ (by decide) ?_
  rintro sv H' G' ⟨rfl, rfl, rfl⟩ -
  refine ⟨Nat.le_of_ble_eq_true rfl, ?_⟩
  repeat' ((fail_if_success with_reducible refine Stop.mk ?_); (conv => whnf); with_reducible first | refine br_t ?_ | refine br_f ?_ | refine br_nn ?_ | refine br_ns ?_ | refine br_not ?_ | refine br_d (fun h => ?_) (fun h => ?_) | refine br_e (fun h => ?_) (fun h => ?_) | refine br_n (fun h => ?_) (fun h => ?_) | refine drw (by kernel_rfl) ?_ | refine chk (by kernel_rfl) ?_ | refine stop ?_)
  all_goals refine Stop.mk ?_
  rw [i64_in (n := (sByte p).1) (by omega) (by omega), ← hop]
  refine call_fn [] (machine_fn _ op) rfl trivial (by decide) ?_
  rintro sv H' G' ⟨rfl, rfl, rfl⟩ -
  refine ⟨Nat.le_of_ble_eq_true rfl, ?_⟩
  repeat' ((fail_if_success with_reducible refine Stop.mk ?_); (conv => whnf); first | with_reducible refine br_t ?_ | with_reducible refine br_f ?_ | with_reducible refine br_nn ?_ | with_reducible refine br_ns ?_ | with_reducible refine br_not ?_ | ((with_reducible refine br_d (fun h => ?_) (fun h => ?_)) <;> try (exfalso; omega)) | ((with_reducible refine br_e (fun h => ?_) (fun h => ?_)) <;> try (exfalso; omega)) | ((with_reducible refine br_n (fun h => ?_) (fun h => ?_)) <;> try (exfalso; omega)) | with_reducible refine drw (by kernel_rfl) ?_ | with_reducible refine chk (by kernel_rfl) ?_ | with_reducible refine stop ?_)
  all_goals refine Stop.mk ?_
  all_goals try
    refine call_fn [0] (pfail_fn 8 (p := (sByte p).2)) rfl ⟨rfl, trivial⟩ (by decide) ?_
    rintro sv H' G' ⟨rfl, rfl, rfl⟩ -
    refine ⟨Nat.le_of_ble_eq_true rfl, ?_⟩
    repeat' ((fail_if_success with_reducible refine Stop.mk ?_); (conv => whnf); first | with_reducible refine br_t ?_ | with_reducible refine br_f ?_ | with_reducible refine br_nn ?_ | with_reducible refine br_ns ?_ | with_reducible refine br_not ?_ | ((with_reducible refine br_d (fun h => ?_) (fun h => ?_)) <;> try (exfalso; omega)) | ((with_reducible refine br_e (fun h => ?_) (fun h => ?_)) <;> try (exfalso; omega)) | ((with_reducible refine br_n (fun h => ?_) (fun h => ?_)) <;> try (exfalso; omega)) | with_reducible refine drw (by kernel_rfl) ?_ | with_reducible refine chk (by kernel_rfl) ?_ | with_reducible refine stop ?_)
    all_goals refine Stop.mk ?_
  all_goals try
    have hq' : sFail 8 (sByte p).2 = q := by rw [hq]; unfold sFirst machOp; rw [← hop]; simp only [decide_eq_true_iff]; rw [if_neg (by assumption)]
    rw [hq']
  all_goals try
    have hq' : (sByte p).2 = q := by rw [hq]; unfold sFirst machOp; rw [← hop]; simp only [decide_eq_true_iff]; rw [if_pos (by assumption)]
    rw [hq']
  all_goals
    refine call_fn [0] (place_fn regs slots hc) rfl ⟨rfl, trivial⟩ (by decide) ?_
    rintro sv H' G' ⟨rfl, rfl, rfl⟩ -
    refine ⟨Nat.le_of_ble_eq_true rfl, ?_⟩
    have hc1 := hc.next (sPlace_suf regs slots q)
    repeat' ((fail_if_success with_reducible refine Stop.mk ?_); (conv => whnf); with_reducible first | refine br_t ?_ | refine br_f ?_ | refine br_nn ?_ | refine br_ns ?_ | refine br_not ?_ | refine br_d (fun h => ?_) (fun h => ?_) | refine br_e (fun h => ?_) (fun h => ?_) | refine br_n (fun h => ?_) (fun h => ?_) | refine drw (by kernel_rfl) ?_ | refine chk (by kernel_rfl) ?_ | refine stop ?_)
    all_goals refine Stop.mk ?_
    refine call_fn [0] (place_fn regs slots hc1) rfl ⟨rfl, trivial⟩ (by decide) ?_
    rintro sv H' G' ⟨rfl, rfl, rfl⟩ -
    refine ⟨Nat.le_of_ble_eq_true rfl, ?_⟩
    repeat' ((fail_if_success with_reducible refine Stop.mk ?_); (conv => whnf); with_reducible first | refine br_t ?_ | refine br_f ?_ | refine br_nn ?_ | refine br_ns ?_ | refine br_not ?_ | refine br_d (fun h => ?_) (fun h => ?_) | refine br_e (fun h => ?_) (fun h => ?_) | refine br_n (fun h => ?_) (fun h => ?_) | refine drw (by kernel_rfl) ?_ | refine chk (by kernel_rfl) ?_ | refine stop ?_)
    all_goals refine Stop.mk ?_
    refine call_fn [] (isSlot_fn _ (sPlace regs slots q).1) rfl trivial (by decide) ?_
    rintro sv H' G' ⟨rfl, rfl, rfl⟩ -
    refine ⟨Nat.le_of_ble_eq_true rfl, ?_⟩
    repeat' ((fail_if_success with_reducible refine Stop.mk ?_); (conv => whnf); with_reducible first | refine br_t ?_ | refine br_f ?_ | refine br_nn ?_ | refine br_ns ?_ | refine br_not ?_ | refine br_d (fun h => ?_) (fun h => ?_) | refine br_e (fun h => ?_) (fun h => ?_) | refine br_n (fun h => ?_) (fun h => ?_) | refine drw (by kernel_rfl) ?_ | refine chk (by kernel_rfl) ?_ | refine stop ?_)
    all_goals refine Stop.mk ?_
  all_goals try
    refine call_fn [] (isSlot_fn _ (sPlace regs slots (sPlace regs slots q).2).1) rfl trivial (by decide) ?_
    rintro sv H' G' ⟨rfl, rfl, rfl⟩ -
    refine ⟨Nat.le_of_ble_eq_true rfl, ?_⟩
    repeat' ((fail_if_success with_reducible refine Stop.mk ?_); (conv => whnf); with_reducible first | refine br_t ?_ | refine br_f ?_ | refine br_nn ?_ | refine br_ns ?_ | refine br_not ?_ | refine br_d (fun h => ?_) (fun h => ?_) | refine br_e (fun h => ?_) (fun h => ?_) | refine br_n (fun h => ?_) (fun h => ?_) | refine drw (by kernel_rfl) ?_ | refine chk (by kernel_rfl) ?_ | refine stop ?_)
    all_goals refine Stop.mk ?_
  all_goals try
    refine call_fn [0] (pfail_fn 10 (p := (sPlace regs slots (sPlace regs slots q).2).2)) rfl ⟨rfl, trivial⟩ (by decide) ?_
    rintro sv H' G' ⟨rfl, rfl, rfl⟩ -
    refine ⟨Nat.le_of_ble_eq_true rfl, ?_⟩
    repeat' ((fail_if_success with_reducible refine Stop.mk ?_); (conv => whnf); with_reducible first | refine br_t ?_ | refine br_f ?_ | refine br_nn ?_ | refine br_ns ?_ | refine br_not ?_ | refine br_d (fun h => ?_) (fun h => ?_) | refine br_e (fun h => ?_) (fun h => ?_) | refine br_n (fun h => ?_) (fun h => ?_) | refine drw (by kernel_rfl) ?_ | refine chk (by kernel_rfl) ?_ | refine stop ?_)
    all_goals refine Stop.mk ?_
  all_goals
    first
      | (rw [if_pos ⟨by assumption, by assumption⟩] at hmv
         replace hfin := hfin _ _ _ hmv)
      | (rw [if_neg (by rintro ⟨h1, h2⟩; first | exact absurd h1 (by assumption) | exact absurd h2 (by assumption))] at hmv
         replace hfin := hfin _ _ _ hmv)
  all_goals
    refine call_fn [0] (perr_fn (p := (sMac regs slots p).2)) rfl ⟨by rw [hfin]; rfl, trivial⟩ (by decide) ?_
    rintro sv H' G' ⟨rfl, rfl, rfl⟩ -
    refine ⟨Nat.le_of_ble_eq_true rfl, ?_⟩
    repeat' ((fail_if_success with_reducible refine Stop.mk ?_); (conv => whnf); with_reducible first | refine br_t ?_ | refine br_f ?_ | refine br_nn ?_ | refine br_ns ?_ | refine br_not ?_ | refine br_d (fun h => ?_) (fun h => ?_) | refine br_e (fun h => ?_) (fun h => ?_) | refine br_n (fun h => ?_) (fun h => ?_) | refine drw (by kernel_rfl) ?_ | refine chk (by kernel_rfl) ?_ | refine stop ?_)
    all_goals refine Stop.mk ?_
  all_goals
    refine fin_id hE 1 rfl rfl rfl rfl ⟨?_, ?_, rfl⟩
    · rw [hfin] at h ⊢
      dsimp only at h ⊢
      first
        | (rw [if_pos h]; rfl)
        | (rw [if_neg h]; rfl)
    · rw [hfin]; rfl
end Go.Proofs.Ytkhajngpcgmpnaa.Cu
