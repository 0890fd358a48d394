/- The reference's instructions and terminators: what is read. -/
import Derived.Test.YtkhajngpcgmpnaaIn7
import Derived.Test.YtkhajngpcgmpnaaIny
namespace Go.Proofs.Ytkhajngpcgmpnaa.Cu
open Go Go.SX Go.Proofs.Ytkhajngpcgmpnaa.VT
set_option maxRecDepth 100000
set_option linter.unusedVariables false
set_option linter.unusedSimpArgs false

theorem optN_err {u : Bool} {bound why : Int} {p : Ps} (h : p.2 ≠ 0) : optN u bound why p = (0, p) := by
  cases u
  · rfl
  · exact sNum_err h
theorem optI_err {u : Bool} {p : Ps} (h : p.2 ≠ 0) : optI u p = (0, p) := by
  cases u
  · rfl
  · exact sInt_err h
theorem sFlds_err {op regs : Int} {p : Ps} (h : p.2 ≠ 0) : sFlds op regs p = ((0, 0, 0, 0), p) := by
  unfold sFlds
  simp only [optN_err h, optI_err h]
theorem sPlace_err {regs slots : Int} {q : Ps} (hq : q.2 ≠ 0) : (sPlace regs slots q).2 = q := by
  unfold sPlace; simp only; rw [sUint_err hq, if_neg (fun h => hq h.1)]
theorem sMove_err {regs slots : Int} {p : Ps} (h : p.2 ≠ 0) : (sMove regs slots p).2 = p := by
  unfold sMove; simp only [sPlace_err h, sFail_err h, ite_self]
theorem sRead_err {op regs slots : Int} {p : Ps} (h : p.2 ≠ 0) : sRead op regs slots p = (mac0, p) := by
  unfold sRead
  split
  · simp only [sMove_err h, h, if_false]
  · simp only [sFlds_err h, h, if_false]
def Mac.ins (m : Mac) : Ins := ⟨m.op, m.d, m.a, m.b, m.imm⟩
theorem sIns_is {regs : Int} {p : Ps} (h : (sFirst srcOp 8 p).1 ≠ 18) : sIns regs p = ((sRead (sFirst srcOp 8 p).1 regs 0 (sFirst srcOp 8 p).2).1.ins, (sRead (sFirst srcOp 8 p).1 regs 0 (sFirst srcOp 8 p).2).2) := by
  unfold sIns sRead
  rw [if_neg h]
  simp only
  split <;> rfl
theorem sIns_err {regs : Int} {p : Ps} (h : (sFirst srcOp 8 p).2.2 ≠ 0) : sIns regs p = (⟨0, 0, 0, 0, 0⟩, (sFirst srcOp 8 p).2) := by
  unfold sIns
  simp only [sFlds_err h, h, if_false]
theorem srcOp_good : srcOp = goodR 17 0 := by
  funext x; unfold srcOp goodR known; rw [decide_eq_decide]; omega
theorem machOp_good : machOp = goodR 18 2 := by
  funext x; unfold machOp goodR known; rw [decide_eq_decide]; omega
theorem trmKind_good : trmKind = goodR 3 0 := by
  funext x; unfold trmKind goodR; rw [decide_eq_decide]; omega
theorem sFirst_good {good : Int → Bool} {why : Int} {p : Ps} (hw : why ≠ 0) (h : (sFirst good why p).2.2 = 0) : good (sFirst good why p).1 = true := by
  unfold sFirst at *
  simp only at *
  by_cases hg : good (sByte p).1 = true
  · exact hg
  · rw [if_neg hg] at h
    by_cases he : (sByte p).2.2 = 0
    · rw [sFail_of he] at h; exact absurd h hw
    · rw [sFail_err he] at h; exact absurd h he
set_option maxHeartbeats 8000000 in
theorem rins_fn {G : Gh} {A : Option Addr} {c : Nat} {p r : Ps} (regs : Int) (hI : RIn G A c p r) (hpb : isB p.1) (hr : 0 ≤ regs) (h1 : regs ≤ 1099511627776) :
    Ct Try.prog 57 [inS A c r, .v (.int .i64 regs)] [] G (RPost G (sIns regs p).1.sv (sIns regs p).2) := by
  have hg := sFirst_good (good := srcOp) (why := 8) (p := p) (by decide)
  have hi := sIns_is (regs := regs) (p := p)
  have hi2 := sIns_err (regs := regs) (p := p)
  have hpb1 : isB (sFirst srcOp 8 p).2.1 := fun x hx => hpb x ((sFirst_suf _ _ _).subset hx)
  rw [srcOp_good] at *
  refine fn_of follows [(3, (.cons 0 [] (.cons 1 [] (.cons 2 [] (.cons 3 [1] .nil))))), (5, (.cons 0 [] (.cons 1 [] (.cons 2 [] (.cons 3 [] (.cons 4 [] (.cons 5 [] (.cons 6 [] (.cons 7 [] (.cons 8 [] (.cons 9 [] (.cons 10 [] (.cons 11 [] (.cons 12 [1, 3, 5, 7, 9] (.cons 13 [1, 3, 5, 7, 9, 11] .nil)))))))))))))))] Try.func57 rfl rfl fun E hE => ?_
  repeat' ((fail_if_success with_reducible refine Stop.mk ?_); (conv => whnf); with_reducible first | refine br_t ?_ | refine br_f ?_ | refine br_nn ?_ | refine br_ns ?_ | refine br_not ?_ | refine br_d (fun h => ?_) (fun h => ?_) | refine br_e (fun h => ?_) (fun h => ?_) | refine br_n (fun h => ?_) (fun h => ?_) | refine drw (by kernel_rfl) ?_ | refine chk (by kernel_rfl) ?_ | refine stop ?_)
  all_goals refine Stop.mk ?_
  refine call_fn [] (rfirst_fn 17 0 8 hI (by decide)) rfl trivial (by decide) ?_
  rintro sv H' G' ⟨v, ⟨A1, c1, r1, rfl, hD, rfl, rfl⟩, hv, hv0⟩ -
  refine ⟨Nat.zero_le _, ?_⟩
  generalize sFirst (goodR 17 0) 8 p = f at *
  repeat' ((fail_if_success with_reducible refine Stop.mk ?_); (conv => whnf); with_reducible first | refine br_t ?_ | refine br_f ?_ | refine br_nn ?_ | refine br_ns ?_ | refine br_not ?_ | refine br_d (fun h => ?_) (fun h => ?_) | refine br_e (fun h => ?_) (fun h => ?_) | refine br_n (fun h => ?_) (fun h => ?_) | refine drw (by kernel_rfl) ?_ | refine chk (by kernel_rfl) ?_ | refine stop ?_)
  all_goals refine Stop.mk ?_
  · have h0 : f.2.2 = 0 := by rw [← hD.he]; assumption
    have hv' := hv h0
    subst hv'
    have hg' := hg h0
    have hne : f.1 ≠ 18 := by have := of_decide_eq_true hg'; omega
    replace hi := hi hne
    refine call_fn [] (rread_fn f.1 regs 0 hD hpb1 hr h1 (by omega)) rfl trivial (by decide) ?_
    rintro sv H' G' ⟨A2, c2, r2, rfl, hA, rfl, rfl⟩ -
    refine ⟨Nat.zero_le _, ?_⟩
    repeat' ((fail_if_success with_reducible refine Stop.mk ?_); (conv => whnf); with_reducible first | refine br_t ?_ | refine br_f ?_ | refine br_nn ?_ | refine br_ns ?_ | refine br_not ?_ | refine br_d (fun h => ?_) (fun h => ?_) | refine br_e (fun h => ?_) (fun h => ?_) | refine br_n (fun h => ?_) (fun h => ?_) | refine drw (by kernel_rfl) ?_ | refine chk (by kernel_rfl) ?_ | refine stop ?_)
    all_goals refine Stop.mk ?_
    refine fin_id hE 0 rfl rfl rfl rfl ⟨A2, c2, r2, ?_, (by rw [hi]; exact hA), rfl, rfl⟩
    rw [hi]; rfl
  · have h0 : f.2.2 ≠ 0 := by rw [← hD.he]; assumption
    replace hi2 := hi2 h0
    refine fin_id hE 0 rfl rfl rfl rfl ⟨A1, c1, r1, ?_, (by rw [hi2]; exact hD), rfl, rfl⟩
    rw [hi2]; rfl
set_option maxHeartbeats 8000000 in
theorem rmac_fn {G : Gh} {A : Option Addr} {c : Nat} {p r : Ps} (regs slots : Int) (hI : RIn G A c p r) (hpb : isB p.1) (hr : 0 ≤ regs) (h1 : regs ≤ 1099511627776) (h2 : slots ≤ 1099511627776) :
    Ct Try.prog 58 [inS A c r, .v (.int .i64 regs), .v (.int .i64 slots)] [] G (RPost G (sMac regs slots p).1.sv (sMac regs slots p).2) := by
  have hi := sMac_is regs slots p
  have hpb1 : isB (sFirst machOp 8 p).2.1 := fun x hx => hpb x ((sFirst_suf _ _ _).subset hx)
  rw [machOp_good] at *
  refine fn_of follows [(3, (.cons 0 [] (.cons 1 [] (.cons 2 [] (.cons 3 [1] .nil)))))] Try.func58 rfl rfl fun E hE => ?_
  repeat' ((fail_if_success with_reducible refine Stop.mk ?_); (conv => whnf); with_reducible first | refine br_t ?_ | refine br_f ?_ | refine br_nn ?_ | refine br_ns ?_ | refine br_not ?_ | refine br_d (fun h => ?_) (fun h => ?_) | refine br_e (fun h => ?_) (fun h => ?_) | refine br_n (fun h => ?_) (fun h => ?_) | refine drw (by kernel_rfl) ?_ | refine chk (by kernel_rfl) ?_ | refine stop ?_)
  all_goals refine Stop.mk ?_
  refine call_fn [] (rfirst_fn 18 2 8 hI (by decide)) rfl trivial (by decide) ?_
  rintro sv H' G' ⟨v, ⟨A1, c1, r1, rfl, hD, rfl, rfl⟩, hv, hv0⟩ -
  refine ⟨Nat.zero_le _, ?_⟩
  generalize sFirst (goodR 18 2) 8 p = f at *
  repeat' ((fail_if_success with_reducible refine Stop.mk ?_); (conv => whnf); with_reducible first | refine br_t ?_ | refine br_f ?_ | refine br_nn ?_ | refine br_ns ?_ | refine br_not ?_ | refine br_d (fun h => ?_) (fun h => ?_) | refine br_e (fun h => ?_) (fun h => ?_) | refine br_n (fun h => ?_) (fun h => ?_) | refine drw (by kernel_rfl) ?_ | refine chk (by kernel_rfl) ?_ | refine stop ?_)
  all_goals refine Stop.mk ?_
  · have h0 : f.2.2 = 0 := by rw [← hD.he]; assumption
    have hv' := hv h0
    subst hv'
    refine call_fn [] (rread_fn f.1 regs slots hD hpb1 hr h1 h2) rfl trivial (by decide) ?_
    rintro sv H' G' ⟨A2, c2, r2, rfl, hA, rfl, rfl⟩ -
    refine ⟨Nat.zero_le _, ?_⟩
    repeat' ((fail_if_success with_reducible refine Stop.mk ?_); (conv => whnf); with_reducible first | refine br_t ?_ | refine br_f ?_ | refine br_nn ?_ | refine br_ns ?_ | refine br_not ?_ | refine br_d (fun h => ?_) (fun h => ?_) | refine br_e (fun h => ?_) (fun h => ?_) | refine br_n (fun h => ?_) (fun h => ?_) | refine drw (by kernel_rfl) ?_ | refine chk (by kernel_rfl) ?_ | refine stop ?_)
    all_goals refine Stop.mk ?_
    refine fin_id hE 0 rfl rfl rfl rfl ⟨A2, c2, r2, ?_, (by rw [hi]; exact hA), rfl, rfl⟩
    rw [hi]; rfl
  · have h0 : f.2.2 ≠ 0 := by rw [← hD.he]; assumption
    rw [sRead_err h0] at hi
    refine fin_id hE 0 rfl rfl rfl rfl ⟨A1, c1, r1, ?_, (by rw [hi]; exact hD), rfl, rfl⟩
    rw [hi]; rfl
theorem sTrm_is (regs blocks : Int) (p : Ps) : sTrm regs blocks p = (if (sTf (sFirst trmKind 16 p).1 regs blocks (sFirst trmKind 16 p).2).2.2 = 0 then ⟨(sFirst trmKind 16 p).1, (sTf (sFirst trmKind 16 p).1 regs blocks (sFirst trmKind 16 p).2).1.1, (sTf (sFirst trmKind 16 p).1 regs blocks (sFirst trmKind 16 p).2).1.2.1, (sTf (sFirst trmKind 16 p).1 regs blocks (sFirst trmKind 16 p).2).1.2.2⟩ else trm0, (sTf (sFirst trmKind 16 p).1 regs blocks (sFirst trmKind 16 p).2).2) := rfl
theorem sTf_err {k regs blocks : Int} {p : Ps} (h : p.2 ≠ 0) : sTf k regs blocks p = ((0, 0, 0), p) := by
  unfold sTf
  simp only [optN_err h]
theorem sTrm_err {regs blocks : Int} {p : Ps} (h : (sFirst trmKind 16 p).2.2 ≠ 0) : sTrm regs blocks p = (trm0, (sFirst trmKind 16 p).2) := by
  rw [sTrm_is, sTf_err h]
  simp only [h, if_false]
set_option maxHeartbeats 8000000 in
theorem rtrm_fn {G : Gh} {A : Option Addr} {c : Nat} {p r : Ps} (regs blocks : Int) (hI : RIn G A c p r) (hr : 0 ≤ regs) (h1 : regs ≤ 1099511627776) (hr2 : 0 ≤ blocks) (h2 : blocks ≤ 1099511627776) :
    Ct Try.prog 59 [inS A c r, .v (.int .i64 regs), .v (.int .i64 blocks)] [] G (RPost G (sTrm regs blocks p).1.sv (sTrm regs blocks p).2) := by
  have hg := sFirst_good (good := trmKind) (why := 16) (p := p) (by decide)
  have hi := sTrm_is regs blocks p
  have hi2 := sTrm_err (regs := regs) (blocks := blocks) (p := p)
  rw [trmKind_good] at *
  refine fn_of follows [(10, (.cons 0 [] (.cons 1 [] (.cons 2 [] (.cons 3 [1] .nil))))), (11, (.cons 0 [] (.cons 1 [] (.cons 2 [0] (.cons 3 [0, 1] .nil)))))] Try.func59 rfl rfl fun E hE => ?_
  repeat' ((fail_if_success with_reducible refine Stop.mk ?_); (conv => whnf); with_reducible first | refine br_t ?_ | refine br_f ?_ | refine br_nn ?_ | refine br_ns ?_ | refine br_not ?_ | refine br_d (fun h => ?_) (fun h => ?_) | refine br_e (fun h => ?_) (fun h => ?_) | refine br_n (fun h => ?_) (fun h => ?_) | refine drw (by kernel_rfl) ?_ | refine chk (by kernel_rfl) ?_ | refine stop ?_)
  all_goals refine Stop.mk ?_
  refine call_fn [] (rfirst_fn 3 0 16 hI (by decide)) rfl trivial (by decide) ?_
  rintro sv H' G' ⟨v, ⟨A1, c1, r1, rfl, hD, rfl, rfl⟩, hv, hv0⟩ -
  refine ⟨Nat.zero_le _, ?_⟩
  generalize sFirst (goodR 3 0) 16 p = f at *
  by_cases h0 : f.2.2 = 0
  · have hv' := hv h0
    subst hv'
    have hg' := hg h0
    have hk : f.1 = 1 ∨ f.1 = 2 ∨ f.1 = 3 := by have := of_decide_eq_true hg'; omega
    clear hv hv0 hi2
    obtain ⟨k, q⟩ := f
    dsimp only at *
    have hfl : sTf k regs blocks q = sTf k regs blocks q := rfl
    conv at hfl => rhs; unfold sTf
    have dT : ∀ [Decidable True], decide True = true := by intro; exact decide_eq_true trivial
    rcases hk with rfl | rfl | rfl
    all_goals
      simp only [show decide ((1 : Int) ≠ 1) = false by decide, show decide ((1 : Int) ≠ 3) = true by decide, show decide ((1 : Int) = 2) = false by decide, show decide ((2 : Int) ≠ 1) = true by decide, show decide ((2 : Int) ≠ 3) = true by decide, show decide ((2 : Int) = 2) = true by decide, show decide ((3 : Int) ≠ 1) = true by decide, show decide ((3 : Int) ≠ 3) = false by decide, show decide ((3 : Int) = 2) = false by decide, dT, optN] at hfl
      rw [hfl] at hi
      dsimp only at hi
      repeat' ((fail_if_success with_reducible refine Stop.mk ?_); (conv => whnf); first | with_reducible refine br_t ?_ | with_reducible refine br_f ?_ | with_reducible refine br_nn ?_ | with_reducible refine br_ns ?_ | with_reducible refine br_not ?_ | ((with_reducible refine br_d (fun h => ?_) (fun h => ?_)) <;> try (exfalso; omega)) | ((with_reducible refine br_e (fun h => ?_) (fun h => ?_)) <;> try (exfalso; omega)) | ((with_reducible refine br_n (fun h => ?_) (fun h => ?_)) <;> try (exfalso; omega)) | with_reducible refine drw (by kernel_rfl) ?_ | with_reducible refine chk (by kernel_rfl) ?_ | with_reducible refine stop ?_)
      all_goals refine Stop.mk ?_
    · refine call_fn [] (rNumber_fn blocks 11 hD ⟨by omega, by omega⟩ (by decide)) rfl trivial (by decide) ?_
      rintro sv H' G' ⟨A2, c2, r2, rfl, hL, rfl, rfl⟩ -
      refine ⟨Nat.zero_le _, ?_⟩
      repeat' ((fail_if_success with_reducible refine Stop.mk ?_); (conv => whnf); first | with_reducible refine br_t ?_ | with_reducible refine br_f ?_ | with_reducible refine br_nn ?_ | with_reducible refine br_ns ?_ | with_reducible refine br_not ?_ | ((with_reducible refine br_d (fun h => ?_) (fun h => ?_)) <;> try (exfalso; omega)) | ((with_reducible refine br_e (fun h => ?_) (fun h => ?_)) <;> try (exfalso; omega)) | ((with_reducible refine br_n (fun h => ?_) (fun h => ?_)) <;> try (exfalso; omega)) | with_reducible refine drw (by kernel_rfl) ?_ | with_reducible refine chk (by kernel_rfl) ?_ | with_reducible refine stop ?_)
      all_goals refine Stop.mk ?_
      all_goals
        first
          | (rw [if_pos (by rw [← hL.he]; assumption)] at hi
             refine fin_id hE 0 rfl rfl rfl rfl ⟨_, _, _, ?_, (by rw [hi]; exact hL), rfl, rfl⟩
             rw [hi]; rfl)
          | (rw [if_neg (by rw [← hL.he]; assumption)] at hi
             refine fin_id hE 0 rfl rfl rfl rfl ⟨_, _, _, ?_, (by rw [hi]; exact hL), rfl, rfl⟩
             rw [hi]; rfl)
    · refine call_fn [] (rNumber_fn regs 9 hD ⟨by omega, by omega⟩ (by decide)) rfl trivial (by decide) ?_
      rintro sv H' G' ⟨A2, c2, r2, rfl, hA, rfl, rfl⟩ -
      refine ⟨Nat.zero_le _, ?_⟩
      repeat' ((fail_if_success with_reducible refine Stop.mk ?_); (conv => whnf); first | with_reducible refine br_t ?_ | with_reducible refine br_f ?_ | with_reducible refine br_nn ?_ | with_reducible refine br_ns ?_ | with_reducible refine br_not ?_ | ((with_reducible refine br_d (fun h => ?_) (fun h => ?_)) <;> try (exfalso; omega)) | ((with_reducible refine br_e (fun h => ?_) (fun h => ?_)) <;> try (exfalso; omega)) | ((with_reducible refine br_n (fun h => ?_) (fun h => ?_)) <;> try (exfalso; omega)) | with_reducible refine drw (by kernel_rfl) ?_ | with_reducible refine chk (by kernel_rfl) ?_ | with_reducible refine stop ?_)
      all_goals refine Stop.mk ?_
      refine call_fn [] (rNumber_fn blocks 11 hA ⟨by omega, by omega⟩ (by decide)) rfl trivial (by decide) ?_
      rintro sv H' G' ⟨A3, c3, r3, rfl, hB, rfl, rfl⟩ -
      refine ⟨Nat.zero_le _, ?_⟩
      repeat' ((fail_if_success with_reducible refine Stop.mk ?_); (conv => whnf); first | with_reducible refine br_t ?_ | with_reducible refine br_f ?_ | with_reducible refine br_nn ?_ | with_reducible refine br_ns ?_ | with_reducible refine br_not ?_ | ((with_reducible refine br_d (fun h => ?_) (fun h => ?_)) <;> try (exfalso; omega)) | ((with_reducible refine br_e (fun h => ?_) (fun h => ?_)) <;> try (exfalso; omega)) | ((with_reducible refine br_n (fun h => ?_) (fun h => ?_)) <;> try (exfalso; omega)) | with_reducible refine drw (by kernel_rfl) ?_ | with_reducible refine chk (by kernel_rfl) ?_ | with_reducible refine stop ?_)
      all_goals refine Stop.mk ?_
      refine call_fn [] (rNumber_fn blocks 11 hB ⟨by omega, by omega⟩ (by decide)) rfl trivial (by decide) ?_
      rintro sv H' G' ⟨A4, c4, r4, rfl, hL, rfl, rfl⟩ -
      refine ⟨Nat.zero_le _, ?_⟩
      repeat' ((fail_if_success with_reducible refine Stop.mk ?_); (conv => whnf); first | with_reducible refine br_t ?_ | with_reducible refine br_f ?_ | with_reducible refine br_nn ?_ | with_reducible refine br_ns ?_ | with_reducible refine br_not ?_ | ((with_reducible refine br_d (fun h => ?_) (fun h => ?_)) <;> try (exfalso; omega)) | ((with_reducible refine br_e (fun h => ?_) (fun h => ?_)) <;> try (exfalso; omega)) | ((with_reducible refine br_n (fun h => ?_) (fun h => ?_)) <;> try (exfalso; omega)) | with_reducible refine drw (by kernel_rfl) ?_ | with_reducible refine chk (by kernel_rfl) ?_ | with_reducible refine stop ?_)
      all_goals refine Stop.mk ?_
      all_goals
        first
          | (rw [if_pos (by rw [← hL.he]; assumption)] at hi
             refine fin_id hE 0 rfl rfl rfl rfl ⟨_, _, _, ?_, (by rw [hi]; exact hL), rfl, rfl⟩
             rw [hi]; rfl)
          | (rw [if_neg (by rw [← hL.he]; assumption)] at hi
             refine fin_id hE 0 rfl rfl rfl rfl ⟨_, _, _, ?_, (by rw [hi]; exact hL), rfl, rfl⟩
             rw [hi]; rfl)
    · refine call_fn [] (rNumber_fn regs 9 hD ⟨by omega, by omega⟩ (by decide)) rfl trivial (by decide) ?_
      rintro sv H' G' ⟨A2, c2, r2, rfl, hL, rfl, rfl⟩ -
      refine ⟨Nat.zero_le _, ?_⟩
      repeat' ((fail_if_success with_reducible refine Stop.mk ?_); (conv => whnf); first | with_reducible refine br_t ?_ | with_reducible refine br_f ?_ | with_reducible refine br_nn ?_ | with_reducible refine br_ns ?_ | with_reducible refine br_not ?_ | ((with_reducible refine br_d (fun h => ?_) (fun h => ?_)) <;> try (exfalso; omega)) | ((with_reducible refine br_e (fun h => ?_) (fun h => ?_)) <;> try (exfalso; omega)) | ((with_reducible refine br_n (fun h => ?_) (fun h => ?_)) <;> try (exfalso; omega)) | with_reducible refine drw (by kernel_rfl) ?_ | with_reducible refine chk (by kernel_rfl) ?_ | with_reducible refine stop ?_)
      all_goals refine Stop.mk ?_
      all_goals
        first
          | (rw [if_pos (by rw [← hL.he]; assumption)] at hi
             refine fin_id hE 0 rfl rfl rfl rfl ⟨_, _, _, ?_, (by rw [hi]; exact hL), rfl, rfl⟩
             rw [hi]; rfl)
          | (rw [if_neg (by rw [← hL.he]; assumption)] at hi
             refine fin_id hE 0 rfl rfl rfl rfl ⟨_, _, _, ?_, (by rw [hi]; exact hL), rfl, rfl⟩
             rw [hi]; rfl)
  · have hv' := hv0 h0
    subst hv'
    replace hi2 := hi2 h0
    repeat' ((fail_if_success with_reducible refine Stop.mk ?_); (conv => whnf); first | with_reducible refine br_t ?_ | with_reducible refine br_f ?_ | with_reducible refine br_nn ?_ | with_reducible refine br_ns ?_ | with_reducible refine br_not ?_ | ((with_reducible refine br_d (fun h => ?_) (fun h => ?_)) <;> try (exfalso; omega)) | ((with_reducible refine br_e (fun h => ?_) (fun h => ?_)) <;> try (exfalso; omega)) | ((with_reducible refine br_n (fun h => ?_) (fun h => ?_)) <;> try (exfalso; omega)) | with_reducible refine drw (by kernel_rfl) ?_ | with_reducible refine chk (by kernel_rfl) ?_ | with_reducible refine stop ?_)
    all_goals refine Stop.mk ?_
    refine call_fn [] (rNumber_fn regs 9 hD ⟨by omega, by omega⟩ (by decide)) rfl trivial (by decide) ?_
    rintro sv H' G' ⟨A2, c2, r2, rfl, hA, rfl, rfl⟩ -
    refine ⟨Nat.zero_le _, ?_⟩
    repeat' ((fail_if_success with_reducible refine Stop.mk ?_); (conv => whnf); first | with_reducible refine br_t ?_ | with_reducible refine br_f ?_ | with_reducible refine br_nn ?_ | with_reducible refine br_ns ?_ | with_reducible refine br_not ?_ | ((with_reducible refine br_d (fun h => ?_) (fun h => ?_)) <;> try (exfalso; omega)) | ((with_reducible refine br_e (fun h => ?_) (fun h => ?_)) <;> try (exfalso; omega)) | ((with_reducible refine br_n (fun h => ?_) (fun h => ?_)) <;> try (exfalso; omega)) | with_reducible refine drw (by kernel_rfl) ?_ | with_reducible refine chk (by kernel_rfl) ?_ | with_reducible refine stop ?_)
    all_goals refine Stop.mk ?_
    rw [sNum_err h0] at hA
    dsimp only at hA
    refine call_fn [] (rNumber_fn blocks 11 hA ⟨by omega, by omega⟩ (by decide)) rfl trivial (by decide) ?_
    rintro sv H' G' ⟨A3, c3, r3, rfl, hB, rfl, rfl⟩ -
    refine ⟨Nat.zero_le _, ?_⟩
    repeat' ((fail_if_success with_reducible refine Stop.mk ?_); (conv => whnf); first | with_reducible refine br_t ?_ | with_reducible refine br_f ?_ | with_reducible refine br_nn ?_ | with_reducible refine br_ns ?_ | with_reducible refine br_not ?_ | ((with_reducible refine br_d (fun h => ?_) (fun h => ?_)) <;> try (exfalso; omega)) | ((with_reducible refine br_e (fun h => ?_) (fun h => ?_)) <;> try (exfalso; omega)) | ((with_reducible refine br_n (fun h => ?_) (fun h => ?_)) <;> try (exfalso; omega)) | with_reducible refine drw (by kernel_rfl) ?_ | with_reducible refine chk (by kernel_rfl) ?_ | with_reducible refine stop ?_)
    all_goals refine Stop.mk ?_
    all_goals
      dsimp only at hB
      rw [sNum_err h0] at hB
      dsimp only at hB
    all_goals
      first
        | exact absurd (show f.2.2 = 0 by rw [← hB.he]; assumption) h0
        | (refine fin_id hE 0 rfl rfl rfl rfl ⟨A3, c3, r3, ?_, (by rw [hi2]; exact hB), rfl, rfl⟩
           rw [hi2]; rfl)
end Go.Proofs.Ytkhajngpcgmpnaa.Cu
