/- WiBx: WiB, WiC in one text. -/
import Derived.Test.YtchebkpcgglllaaGreatWi7
import Derived.Test.YtchebkpcgglllaaGreatNux
import Derived.Test.YtchebkpcgglllaaGreatSXc
namespace Go.Proofs.YtchebkpcgglllaaGreat.Cu
open Go Go.SX Go.Proofs.YtchebkpcgglllaaGreat.VT
set_option maxRecDepth 100000
set_option linter.unusedVariables false
set_option linter.unusedSimpArgs false

theorem mkPr_3 (q : Pr) (dv dl : Int) (h : dv = 0) : mkPr (false, q) dv dl = ⟨q.v + dv, q.l + 1 + dl⟩ := by
  unfold mkPr
  rw [if_neg (by rintro (h1 | h1)
                 · exact absurd (show false = true from h1) (by decide)
                 · exact h1 h)]
/-- A difference of locations is read by two bounds. -/
theorem sDl_two {p : Ps} (hb : isB p.1) :
    ((sNum 4611686018427387904 10 p).2.2 ≠ 0 → (sDl p).2.2 = (sNum 4611686018427387904 10 p).2.2) ∧
    ((sNum 4611686018427387904 10 p).2.2 = 0 → (sNum 4611686018427387904 10 p).1 ≤ 1099511627776 → sDl p = sNum 4611686018427387904 10 p) ∧
    ((sNum 4611686018427387904 10 p).2.2 = 0 → 1099511627776 < (sNum 4611686018427387904 10 p).1 → (sDl p).2 = sFail 10 (sNum 4611686018427387904 10 p).2) := by
  have h0 := sUint_err0 (most := maxU) (p := p)
  unfold sDl sNum
  generalize sUint maxU p = u at *
  obtain ⟨n, q⟩ := u
  dsimp only at h0 ⊢
  by_cases h1 : (4611686018427387904 : Int) ≤ n
  · rw [if_pos h1, if_pos (by omega)]
    exact ⟨fun _ => rfl, fun _ h => by dsimp only at h ⊢, fun _ h => by dsimp only at h; omega⟩
  · rw [if_neg h1]
    by_cases h2 : (1099511627777 : Int) ≤ n
    · rw [if_pos h2]
      refine ⟨fun h => ?_, fun _ h => by dsimp only at h; omega, fun _ _ => rfl⟩
      have := h0 h
      omega
    · rw [if_neg h2]
      exact ⟨fun _ => rfl, fun _ _ => rfl, fun _ h => by dsimp only at h; omega⟩
set_option maxHeartbeats 8000000 in
theorem rpair_fn {G : Gh} {A : Option Addr} {c : Nat} {p r : Ps} (first : Bool) (q : Pr) (vregs regs slots : Int) (h : RIn G A c p r) (hb : isB p.1) (hv : vregs ≤ 1000000000) (hr : regs ≤ 1000000000) (hs : slots ≤ 1000000000) (hg : goodS vregs (first, q)) (hl : q.l ≤ 3000000000) :
    Ct Tryz.prog 88 [inS A c r, .v (.bool first), q.sv, .v (.int .i64 vregs), .v (.int .i64 regs), .v (.int .i64 slots)] [] G fun sv H' G' => ∃ x A' c' r', sv = .tup [x.sv, inS A' c' r'] ∧ RIn G A' c' (sPr vregs regs slots (first, q) p).2 r' ∧ (in64 x.v ∧ in64 x.l) ∧ ((sPr vregs regs slots (first, q) p).2.2 = 0 → x = (sPr vregs regs slots (first, q) p).1) ∧ H' = [] ∧ G' = G := by
  obtain ⟨g1, g2, g3⟩ := hg
  dsimp only at g1 g2 g3
  have hw : IntKind.i64.wrap (vregs - q.v) = vregs - q.v := i64_in (by omega) (by omega)
  have hra := sNum_rng2 (bound := vregs - q.v) (why := 9) hb
  have hba : isB (sNum (vregs - q.v) 9 p).2.1 := fun x hx => hb x ((sNum_suf _ _ _).subset hx)
  have hrd := sNum_rng2 (bound := 4611686018427387904) (why := 10) hba
  have h2 := sDl_two hba
  have hsp : sPr vregs regs slots (first, q) p = if (sDl (sNum (vregs - q.v) 9 p).2).2.2 ≠ 0 then (pr0, (sDl (sNum (vregs - q.v) 9 p).2).2) else (mkPr (first, q) (sNum (vregs - q.v) 9 p).1 (sDl (sNum (vregs - q.v) 9 p).2).1, if inRange (mkPr (first, q) (sNum (vregs - q.v) 9 p).1 (sDl (sNum (vregs - q.v) 9 p).2).1).l regs slots then (sDl (sNum (vregs - q.v) 9 p).2).2 else sFail 10 (sDl (sNum (vregs - q.v) 9 p).2).2) := rfl
  refine fn_of follows [(10, (.cons 0 [] (.cons 1 [] (.cons 2 [] (.cons 3 [] (.cons 4 [] (.cons 5 [] (.cons 6 [] (.cons 7 [1] (.cons 8 [1, 6] .nil))))))))))] Tryz.func88 rfl rfl fun E hE => ?_
  repeat' ((fail_if_success with_reducible refine Stop.mk ?_);(conv=>whnf);with_reducible refine stop ?_)
  all_goals refine Stop.mk ?_
  rw [hw]
  refine call_fn [] (rNumber_fn (vregs - q.v) 9 h (by omega) (by decide)) rfl trivial (by decide) ?_
  rintro sv H' G' ⟨B1, d1, r1, rfl, hR1, rfl, rfl⟩ -
  refine ⟨Nat.le_of_ble_eq_true rfl, ?_⟩
  repeat' ((fail_if_success with_reducible refine Stop.mk ?_);(conv=>whnf);with_reducible refine stop ?_)
  all_goals refine Stop.mk ?_
  refine call_fn [] (rNumber_fn 4611686018427387904 10 hR1 (by decide) (by decide)) rfl trivial (by decide) ?_
  rintro sv H' G' ⟨B2, d2, r2, rfl, hR2, rfl, rfl⟩ -
  refine ⟨Nat.le_of_ble_eq_true rfl, ?_⟩
  generalize sNum (vregs - q.v) 9 p = a at *
  obtain ⟨dv, pa⟩ := a
  dsimp only at hra hba hrd h2 hsp hR2 ⊢
  generalize sNum 4611686018427387904 10 pa = d at *
  obtain ⟨dl, pd⟩ := d
  dsimp only at hrd h2 hR2 ⊢
  have hdl : dl ≤ 4611686018427387904 := by omega
  have hdl0 : 0 ≤ dl := hrd.1
  have hE1 : pd.2 ≠ 0 → (sPr vregs regs slots (first, q) p).2.2 = pd.2 := by
    intro h0
    have h3 := h2.1 h0
    rw [hsp, if_pos (by rw [h3]; exact h0)]
    exact h3
  have hE2 : pd.2 = 0 → ∀ x, mkPr (first, q) dv dl = x → ¬ inRange x.l regs slots → dl ≤ x.l → (sPr vregs regs slots (first, q) p).2 = sFail 10 pd := by
    intro h0 x hx hin hle
    by_cases h40 : dl ≤ 1099511627776
    · rw [hsp, h2.2.1 h0 h40]
      try dsimp only
      rw [if_neg (by rw [h0]; simp), hx]
      try dsimp only
      rw [if_neg hin]
    · have h3 := h2.2.2 h0 (by omega)
      rw [hsp, if_pos (by rw [h3]; exact sFail_ne (by decide))]
      exact h3
  have hE3 : pd.2 = 0 → ∀ x, mkPr (first, q) dv dl = x → inRange x.l regs slots → dl ≤ x.l → sPr vregs regs slots (first, q) p = (x, pd) := by
    intro h0 x hx hin hle
    have hxl : x.l ≤ 2000000001 := by unfold inRange at hin; omega
    rw [hsp, h2.2.1 h0 (by omega)]
    try dsimp only
    rw [if_neg (by rw [h0]; simp), hx]
    try dsimp only
    rw [if_pos hin]
  have he2 := hR2.he
  clear hsp h2
  have hG1 : ∀ x, pd.2 = 0 → mkPr (first, q) dv dl = x → inRange x.l regs slots → dl ≤ x.l → RIn G' B2 d2 (sPr vregs regs slots (first, q) p).2 r2 ∧ ((sPr vregs regs slots (first, q) p).2.2 = 0 → x = (sPr vregs regs slots (first, q) p).1) := by
    intro x h0 hx hin hle
    rw [hE3 h0 x hx hin hle]
    exact ⟨hR2, fun _ => rfl⟩
  have hG2 : ∀ x B3 d3 r3, pd.2 = 0 → mkPr (first, q) dv dl = x → ¬ inRange x.l regs slots → dl ≤ x.l → RIn G' B3 d3 (sFail 10 pd) r3 → RIn G' B3 d3 (sPr vregs regs slots (first, q) p).2 r3 ∧ ((sPr vregs regs slots (first, q) p).2.2 = 0 → x = (sPr vregs regs slots (first, q) p).1) := by
    intro x B3 d3 r3 h0 hx hin hle hR
    have h3 := hE2 h0 x hx hin hle
    rw [h3]
    exact ⟨hR, fun h9 => absurd h9 (sFail_ne (by decide))⟩
  have hw5 : IntKind.i64.wrap (q.l + 1) = q.l + 1 := i64_in (by omega) (by omega)
  have hw6 : IntKind.i64.wrap (q.l + 1 + dl) = q.l + 1 + dl := i64_in (by omega) (by omega)
  have hw7 : IntKind.i64.wrap (q.v + dv) = q.v + dv := i64_in (by omega) (by omega)
  cases first
  all_goals
    repeat' ((fail_if_success with_reducible refine Stop.mk ?_);(conv=>whnf);with_reducible first|refine br_t ?_|refine br_f ?_|refine br_not ?_|refine br_e (fun h=>?_) fun h=>?_|refine drw (by kernel_rfl) ?_|refine stop ?_)
    all_goals refine Stop.mk ?_
  all_goals try rw [hw5]
  all_goals try rw [hw6]
  all_goals try rw [hw7]
  all_goals try
    refine call_fn [] (rinRange_fn _ _ regs slots (by unfold in64; omega)) rfl trivial (by decide) ?_
    rintro sv H' G' ⟨rfl, rfl, rfl⟩ -
    refine ⟨Nat.le_of_ble_eq_true rfl, ?_⟩
    repeat' ((fail_if_success with_reducible refine Stop.mk ?_);(conv=>whnf);with_reducible first|refine br_not ?_|refine br_d (fun h=>?_) fun h=>?_|refine drw (by kernel_rfl) ?_|refine stop ?_)
    all_goals refine Stop.mk ?_
  all_goals try
    refine call_fn [] (r18Fail_fn 10 hR2 (by decide)) rfl trivial (by decide) ?_
    rintro sv H' G' ⟨B3, d3, r3, rfl, hR3, rfl, rfl⟩ -
    refine ⟨Nat.le_of_ble_eq_true rfl, ?_⟩
    repeat' ((fail_if_success with_reducible refine Stop.mk ?_);(conv=>whnf);with_reducible first|refine drw (by kernel_rfl) ?_|refine stop ?_)
    all_goals refine Stop.mk ?_
  all_goals try rw [hw7]
  all_goals
    first
      | (have h0 : r2.2 ≠ 0 := by assumption
         have h1 : pd.2 ≠ 0 := by rw [← he2]; exact h0
         exact fin_id hE 0 rfl rfl rfl rfl ⟨⟨_, _⟩, B2, d2, r2, rfl, hR2.errs h1 (hE1 h1), ⟨by unfold in64; dsimp only; omega, by unfold in64; dsimp only; omega⟩, fun h9 => absurd ((hE1 h1) ▸ h9) h1, rfl, rfl⟩)
      | (have h0 : pd.2 = 0 := by rw [← he2]; assumption
         have k := hG1 ⟨q.v + dv, dl⟩ h0 (mkPr_t q dv dl) (by assumption) (by dsimp only; omega)
         exact fin_id hE 0 rfl rfl rfl rfl ⟨⟨q.v + dv, dl⟩, B2, d2, r2, rfl, k.1, ⟨by unfold in64; dsimp only; omega, by unfold in64; dsimp only; omega⟩, k.2, rfl, rfl⟩)
      | (have h0 : pd.2 = 0 := by rw [← he2]; assumption
         have k := hG2 ⟨q.v + dv, dl⟩ B3 d3 r3 h0 (mkPr_t q dv dl) (by assumption) (by dsimp only; omega) hR3
         exact fin_id hE 0 rfl rfl rfl rfl ⟨⟨q.v + dv, dl⟩, B3, d3, r3, rfl, k.1, ⟨by unfold in64; dsimp only; omega, by unfold in64; dsimp only; omega⟩, k.2, rfl, rfl⟩)
      | (have h0 : pd.2 = 0 := by rw [← he2]; assumption
         have k := hG1 ⟨q.v + dv, dl⟩ h0 (mkPr_1 q dv dl (by assumption)) (by assumption) (by dsimp only; omega)
         exact fin_id hE 0 rfl rfl rfl rfl ⟨⟨q.v + dv, dl⟩, B2, d2, r2, rfl, k.1, ⟨by unfold in64; dsimp only; omega, by unfold in64; dsimp only; omega⟩, k.2, rfl, rfl⟩)
      | (have h0 : pd.2 = 0 := by rw [← he2]; assumption
         have k := hG2 ⟨q.v + dv, dl⟩ B3 d3 r3 h0 (mkPr_1 q dv dl (by assumption)) (by assumption) (by dsimp only; omega) hR3
         exact fin_id hE 0 rfl rfl rfl rfl ⟨⟨q.v + dv, dl⟩, B3, d3, r3, rfl, k.1, ⟨by unfold in64; dsimp only; omega, by unfold in64; dsimp only; omega⟩, k.2, rfl, rfl⟩)
      | (have h0 : pd.2 = 0 := by rw [← he2]; assumption
         have k := hG1 ⟨q.v + dv, q.l + 1 + dl⟩ h0 (mkPr_3 q dv dl (by assumption)) (by assumption) (by dsimp only; omega)
         exact fin_id hE 0 rfl rfl rfl rfl ⟨⟨q.v + dv, q.l + 1 + dl⟩, B2, d2, r2, rfl, k.1, ⟨by unfold in64; dsimp only; omega, by unfold in64; dsimp only; omega⟩, k.2, rfl, rfl⟩)
      | (have h0 : pd.2 = 0 := by rw [← he2]; assumption
         have k := hG2 ⟨q.v + dv, q.l + 1 + dl⟩ B3 d3 r3 h0 (mkPr_3 q dv dl (by assumption)) (by assumption) (by dsimp only; omega) hR3
         exact fin_id hE 0 rfl rfl rfl rfl ⟨⟨q.v + dv, q.l + 1 + dl⟩, B3, d3, r3, rfl, k.1, ⟨by unfold in64; dsimp only; omega, by unfold in64; dsimp only; omega⟩, k.2, rfl, rfl⟩)
end Go.Proofs.YtchebkpcgglllaaGreat.Cu

namespace Go.Proofs.YtchebkpcgglllaaGreat.Cu
open Go Go.SX Go.Proofs.YtchebkpcgglllaaGreat.VT
set_option maxRecDepth 100000
set_option linter.unusedVariables false
set_option linter.unusedSimpArgs false

def inOw (A : Option Addr) (c : Nat) (r : Ps) : Ob := .cells 85 [.v (.slice A r.1.length c), .v (.int .i64 r.2)]
set_option maxHeartbeats 8000000 in
theorem rget_inv_fn {G : Gh} {A : Option Addr} {c : Nat} {p r : Ps} (blocks vregs regs slots : Int) (hR : RIn G A c p r) (hpb : isB p.1) (hb : 0 ≤ blocks ∧ blocks ≤ 2000000) (hv : 0 ≤ vregs ∧ vregs ≤ 1000000000) (hr : regs ≤ 1000000000) (hs : slots ≤ 1000000000) :
    Ct Tryz.prog 38 [inS A c r, .v (.int .i64 blocks), .v (.int .i64 vregs), .v (.int .i64 regs), .v (.int .i64 slots)] [] G fun sv H' G' =>
      ∃ v A' c' r', sv = .tup [v, inS A' c' r'] ∧ InvPost (if (sInv vregs regs slots blocks p).2.2 = 0 then (sInv vregs regs slots blocks p).1 else []) v G' ∧ RIn G' A' c' (sInv vregs regs slots blocks p).2 r' ∧ H' = [] := by
  refine fn_of follows [(20, (.cons 0 [] (.cons 1 [] (.cons 2 [0] .nil)))), (21, (.cons 0 [] (.cons 1 [] (.cons 2 [] (.cons 3 [1] .nil)))))] Tryz.func38 rfl rfl fun E hE => ?_
  repeat' ((fail_if_success with_reducible refine Stop.mk ?_);(conv=>whnf);with_reducible refine stop ?_)
  all_goals refine Stop.mk ?_
  refine loop_gh (gh_birth 12 52 1 rfl) ?_
  rintro _ _ ⟨rfl, rfl⟩
  refine loop_vars follows [(20, (.cons 0 [] (.cons 1 [] (.cons 2 [0] .nil)))), (21, (.cons 0 [] (.cons 1 [] (.cons 2 [] (.cons 3 [1] .nil)))))] (α := Nat × Int × Ps × List (List Pr) × List Value × Gh × Option Addr × Nat × Ps) (fun x => [(12, .s 2), (13, .v (.int .i64 x.2.1)), (14, .v (.int .i64 x.1))])
    (fun x => [inOw x.2.2.2.2.2.2.1 x.2.2.2.2.2.2.2.1 x.2.2.2.2.2.2.2.2, inOw none 0 ([], 0), .row 52 1 x.1 x.2.2.2.2.1]) (fun x => x.2.2.2.2.2.1)
    (fun x => x.1 ≤ blocks.toNat ∧ RIn x.2.2.2.2.2.1 x.2.2.2.2.2.2.1 x.2.2.2.2.2.2.2.1 x.2.2.1 x.2.2.2.2.2.2.2.2 ∧ isB x.2.2.1.1 ∧ x.2.2.2.1.length = x.1 ∧ kPrs.Cs x.2.2.2.2.2.1 x.2.2.2.1 x.2.2.2.2.1 ∧ (∃ acc, Run (sBlk vregs regs slots) nxT blocks.toNat 0 p x.1 x.2.1 x.2.2.1 acc ∧ (x.2.2.1.2 = 0 → acc = x.2.2.2.1)) ∧ (x.2.2.1.2 = 0 → 0 ≤ x.2.1 ∧ x.2.1 ≤ 1048576))
    (fun x => blocks.toNat - x.1) (0, 0, p, [], [], G, A, c, r)
    ⟨Nat.zero_le _, hR, hpb, rfl, Kd.Cs.nil _ _, ⟨[], Run.start _ _ _, fun _ => rfl⟩, fun _ => ⟨Int.le_refl _, by dsimp only; decide⟩⟩ rfl rfl ?_ ?_
  ·
    refine ⟨?_⟩
    (conv => whnf)
    (repeat' (first | exact trivial | exact .inl rfl | exact .inr rfl | refine And.intro ?_ ?_))
  clear hR hpb
  rintro ⟨k, t, p1, os, vals, Gk, A1, c1, r1⟩ ⟨hk, hR, hpb, hol, hvals, ⟨acc, hrun, hacc⟩, ht⟩
  dsimp only at hk hR hpb hol hvals hrun hacc ht ⊢
  have hw2 : IntKind.i64.wrap ((k : Int) + 1) = ((k + 1 : Nat) : Int) := by rw [i64_in (by omega) (by omega)]; simp
  have hexit : ∀ (hd : blocks.toNat ≤ k ∨ p1.2 ≠ 0), sInv vregs regs slots blocks p = (acc, p1) := fun hd => hrun.done hd
  have he1 := hR.he
  repeat' ((fail_if_success with_reducible refine Stop.mk ?_);(conv=>whnf);with_reducible first|refine br_f ?_|refine br_d (fun h=>?_) fun h=>?_|refine br_e (fun h=>?_) fun h=>?_|refine br_n (fun h=>?_) fun h=>?_|refine drw (by kernel_rfl) ?_|refine stop ?_)
  all_goals refine Stop.mk ?_
  · have hp0 : p1.2 = 0 := by rw [← he1]; assumption
    obtain ⟨ht1, ht2⟩ := ht hp0
    have hcr := sCount_range (most := 1048576) (size := 2) hpb (by decide)
    refine call_fn [] (r18Count_fn 2 hR hpb (by decide)) rfl trivial (by decide) ?_
    rintro sv H' G' ⟨Bq, dq, rq, rfl, hR2, rfl, rfl⟩ -
    have hw3 : IntKind.i64.wrap (t + (sCount 1048576 2 p1).1) = t + (sCount 1048576 2 p1).1 := i64_in (by omega) (by omega)
    obtain ⟨q, hq⟩ : ∃ q, q = cntC 1048576 2 6 (fun n => decide (t + n ≤ 1048576)) p1 := ⟨_, rfl⟩
    have hq1 : q.1 = (sCount 1048576 2 p1).1 := by rw [hq]; rfl
    have hqb : isB q.2.1 := by rw [hq]; exact fun x hx => hpb x ((cntC_suf _ _ _ _ _).subset hx)
    have hq3 : q.2.2 = 0 → t + q.1 ≤ 1048576 := by
      rw [hq]; intro h0; unfold cntC at h0 ⊢; dsimp only at h0 ⊢
      split at h0
      · rename_i hg; exact of_decide_eq_true hg
      · exact absurd h0 (sFail_ne (by decide))
    have hblk : sBlk vregs regs slots t p1 = sPrs vregs regs slots q.1 q.2 := by rw [hq]; rfl
    refine ⟨Nat.le_of_ble_eq_true rfl, ?_⟩
    repeat' ((fail_if_success with_reducible refine Stop.mk ?_);(conv=>whnf);with_reducible first|refine br_d (fun h=>?_) fun h=>?_|refine stop ?_)
    all_goals refine Stop.mk ?_
    all_goals rw [hw3] at h ⊢
    all_goals try
      refine call_fn [] (r18Fail_fn 6 hR2 (by decide)) rfl trivial (by decide) ?_
      rintro sv H' G' ⟨Bq, dq, rq, rfl, hR3, rfl, rfl⟩ -
      have hRq : RIn G' Bq dq q.2 rq := by
        have hq2 : q.2 = sFail 6 (sCount 1048576 2 p1).2 := by rw [hq]; unfold cntC; rw [if_neg (by simp only [decide_eq_true_eq]; omega)]
        rw [hq2]; exact hR3
      clear hR3 hR2
      refine ⟨Nat.le_of_ble_eq_true rfl, ?_⟩
      repeat' ((fail_if_success with_reducible refine Stop.mk ?_);(conv=>whnf);with_reducible refine stop ?_)
      all_goals refine Stop.mk ?_
    all_goals try
      have hRq : RIn G' Bq dq q.2 rq := by
        have hq2 : q.2 = (sCount 1048576 2 p1).2 := by rw [hq]; unfold cntC; rw [if_pos (by simp only [decide_eq_true_eq]; omega)]
        rw [hq2]; exact hR2
      clear hR2
    all_goals
      clear hw3 h
      rw [← hq1] at hcr ⊢
      clear hq1 hq
    all_goals
      have hkk0 : k < blocks.toNat := by omega
      refine loop_opq fun K0 hK0 => ?_
      refine loop_gh (gh_birth 16 55 2 rfl) ?_
      rintro _ _ ⟨rfl, rfl⟩
      refine loop_vars follows [(20, (.cons 0 [] (.cons 1 [] (.cons 2 [0] .nil)))), (21, (.cons 0 [] (.cons 1 [] (.cons 2 [] (.cons 3 [1] .nil)))))] (α := Nat × Pr × Ps × List Pr × List Value × Option Addr × Nat × Ps) (fun x => [(16, .s 4), (18, .v (.int .i64 x.1))])
        (fun x => [inOw x.2.2.2.2.2.1 x.2.2.2.2.2.2.1 x.2.2.2.2.2.2.2, inOw none 0 ([], 0), .row 52 1 k vals, prO x.2.1, .row 55 2 x.1 x.2.2.2.2.1]) (fun x => G')
        (fun x => x.1 ≤ q.1.toNat ∧ RIn G' x.2.2.2.2.2.1 x.2.2.2.2.2.2.1 x.2.2.1 x.2.2.2.2.2.2.2 ∧ isB x.2.2.1.1 ∧ x.2.2.2.1.length = x.1 ∧ kPr.Cs G' x.2.2.2.1 x.2.2.2.2.1 ∧ (∃ acc, Run (sPr vregs regs slots) nxP q.1.toNat ps0 q.2 x.1 (((x.1 : Int) == 0), x.2.1) x.2.2.1 acc ∧ (x.2.2.1.2 = 0 → acc = x.2.2.2.1)) ∧ (x.2.2.1.2 = 0 → goodS vregs (((x.1 : Int) == 0), x.2.1) ∧ x.2.1.l ≤ 3000000000))
        (fun x => q.1.toNat - x.1) (0, pr0, q.2, [], [], Bq, dq, rq)
        ⟨Nat.zero_le _, hRq, hqb, rfl, Kd.Cs.nil _ _, ⟨[], Run.start _ _ _, fun _ => rfl⟩, fun _ => ⟨ps0_good hv.1, ps0_l⟩⟩ rfl rfl ?_ ?_
      ·
        refine ⟨?_⟩
        (conv => whnf)
        (repeat' (first | exact trivial | exact .inl rfl | exact .inr rfl | refine And.intro ?_ ?_))
      clear hR hRq hpb hqb
      rintro ⟨k2, q2, p2, ps, vals2, B4, d4, r4⟩ ⟨hk2, hR, hpb, hpl, hvals2, ⟨acc2, hrun2, hacc2⟩, hgd⟩
      dsimp only at hk2 hR hpb hpl hvals2 hrun2 hacc2 hgd ⊢
      have hw4 : IntKind.i64.wrap ((k2 : Int) + 1) = ((k2 + 1 : Nat) : Int) := by rw [i64_in (by omega) (by omega)]; simp
      have he4 := hR.he
      have hexit2 : ∀ (hd : q.1.toNat ≤ k2 ∨ p2.2 ≠ 0), sBlk vregs regs slots t p1 = (acc2, p2) := fun hd => by rw [hblk]; exact hrun2.done hd
      have hnx : sBlk vregs regs slots t p1 = (acc2, p2) → p2.2 = 0 → t + q.1 = nxT t acc2 ∧ (0 ≤ t + q.1 ∧ t + q.1 ≤ 1048576) := by
        intro h1 h0
        rw [hblk] at h1
        have h2 := rep_full (f := sPr vregs regs slots) (nx := nxP) q.1.toNat ps0 q.2
        rw [show rep (sPr vregs regs slots) nxP q.1.toNat ps0 q.2 = (acc2, p2) from h1] at h2
        have h3 := h2 h0
        dsimp only at h3
        have h4 : q.2.2 = 0 := by
          rcases Decidable.em (q.2.2 = 0) with h5 | h5
          · exact h5
          · have := sPrs_st (vregs := vregs) (regs := regs) (slots := slots) (n := q.1) h5
            rw [h1] at this
            rw [← this]; exact h0
        have := hq3 h4
        unfold nxT
        omega
      repeat' ((fail_if_success with_reducible refine Stop.mk ?_);(conv=>whnf);with_reducible first|refine br_f ?_|refine br_d (fun h=>?_) fun h=>?_|refine br_e (fun h=>?_) fun h=>?_|refine stop ?_)
      all_goals refine Stop.mk ?_
      · have hp20 : p2.2 = 0 := by rw [← he4]; assumption
        have hkk : k2 < q.1.toNat := by omega
        obtain ⟨hg1, hg2⟩ := hgd hp20
        have hrg := sPr_rng (regs := regs) (slots := slots) hpb hv.2 hr hs hg1 (by dsimp only; omega)
        have hnext := hrun2.next hkk hp20 (x := (sPr vregs regs slots (((k2 : Int) == 0), q2) p2).1) (p' := (sPr vregs regs slots (((k2 : Int) == 0), q2) p2).2) rfl
        have hsuf := sPr_suf vregs regs slots (((k2 : Int) == 0), q2) p2
        refine call_fn [] (rpair_fn ((k2 : Int) == 0) q2 vregs regs slots hR hpb hv.2 hr hs hg1 hg2) rfl trivial (by decide) ?_
        rintro sv H' G' ⟨x, B5, d5, r5, rfl, hR5, hx64, hxe, rfl, rfl⟩ -
        refine ⟨Nat.le_of_ble_eq_true rfl, ?_⟩
        generalize sPr vregs regs slots (((k2 : Int) == 0), q2) p2 = xp at *
        obtain ⟨y, p3⟩ := xp
        dsimp only at hrg hnext hsuf hR5 hxe
        have hpb3 : isB p3.1 := fun z hz => hpb z (hsuf.subset hz)
        have hk0 : (((k2 + 1 : Nat) : Int) == 0) = false := by simp; omega
        repeat' ((fail_if_success with_reducible refine Stop.mk ?_);(conv=>whnf);with_reducible refine stop ?_)
        all_goals refine Stop.mk ?_
        refine ⟨by simp [Value.oneCell'], ⟨by show (k2 + 1) * 16 ≤ _; omega, ?_⟩⟩
        repeat' ((fail_if_success with_reducible refine Stop.mk ?_);(conv=>whnf);with_reducible refine stop ?_)
        all_goals refine Stop.mk ?_
        rw [hw4]
        refine tell_gc hE [0, 1, 2, 3, 4] rfl rfl ?_
        (conv => whnf)
        refine tell_here ⟨(k2 + 1, x, p3, ps ++ [x], vals2 ++ prv x, B5, d5, r5), ⟨by show k2 + 1 ≤ _; omega, hR5, hpb3, by simp [hpl], ?_, ⟨acc2 ++ [y], ?_, ?_⟩, ?_⟩, by show q.1.toNat - (k2 + 1) < q.1.toNat - k2; omega, rfl, rfl, ?_⟩
        · exact hvals2.snoc ⟨rfl, hx64⟩
        · refine hnext _ (fun h0 => ?_)
          rw [hk0, hxe h0]
          rfl
        · intro h0
          dsimp only at h0 ⊢
          rw [hacc2 hp20, hxe h0]
        · intro h0
          dsimp only at h0 ⊢
          have h7 := (hrg.2 h0).1
          rw [hk0, hxe h0]
          exact h7
        ·
          refine ⟨?_⟩
          (conv => whnf)
          (repeat' (first | exact trivial | exact .inl rfl | exact .inr rfl | refine And.intro ?_ ?_))
      all_goals
        have he2 := hexit2 (by first | exact .inr (by rw [← he4]; assumption) | exact .inl (by omega))
        refine Stop.mk (hK0 _ _ ?_)
        clear hK0
        repeat' ((fail_if_success with_reducible refine Stop.mk ?_);(conv=>whnf);with_reducible refine stop ?_)
        all_goals refine Stop.mk ?_
        refine ⟨hvals2.ones, fun A2 c2 G2 hg2 hs2 _ => ⟨by show (k + 1) * 24 ≤ _; omega, ?_⟩⟩
        replace hR := hR.to hg2
        replace hvals := hvals.to hg2
        replace hvals2 := hvals2.to hg2
        clear hg2
        repeat' ((fail_if_success with_reducible refine Stop.mk ?_);(conv=>whnf);with_reducible refine stop ?_)
        all_goals refine Stop.mk ?_
        rw [hw2]
        refine tell_gc hE [0, 1, 2] rfl rfl ?_
        (conv => whnf)
        refine tell_here ⟨(k + 1, t + q.1, p2, os ++ [ps], vals ++ [.slice A2 k2 c2], G2, B4, d4, r4), ⟨by show k + 1 ≤ _; omega, hR, hpb, by simp [hol], ?_, ⟨acc ++ [acc2], ?_, ?_⟩, ?_⟩, by show blocks.toNat - (k + 1) < blocks.toNat - k; omega, rfl, rfl, ?_⟩
        · exact hvals.snoc ⟨A2, c2, by rw [hpl], Kd.S.of hs2 hpl.symm rfl hvals2⟩
        · exact hrun.next hkk0 hp0 he2 _ (fun h0 => (hnx he2 h0).1)
        · intro h0
          dsimp only at h0 ⊢
          rw [hacc hp0, hacc2 h0]
        · intro h0; exact (hnx he2 h0).2
        ·
          refine ⟨?_⟩
          (conv => whnf)
          (repeat' (first | exact trivial | exact .inl rfl | exact .inr rfl | refine And.intro ?_ ?_))
  all_goals
    have he := hexit (by first | exact .inr (by rw [← he1]; assumption) | exact .inl (by omega))
    first
      | (have h0 : p1.2 ≠ 0 := by rw [← he1]; assumption
         refine fin_id hE 0 rfl rfl rfl rfl ?_
         rw [he]; dsimp only; rw [if_neg h0]
         exact ⟨_, A1, c1, r1, rfl, ⟨none, 0, rfl, Kd.S.none_ _ _⟩, hR, rfl⟩)
      | (have h0 : p1.2 = 0 := by rw [← he1]; assumption
         refine fin_done 2 rfl hvals.ones fun A2 c2 G2 hg hs => fin_id hE 0 rfl rfl rfl rfl ?_
         rw [he]; dsimp only; rw [if_pos h0, hacc h0]
         exact ⟨_, A1, c1, r1, rfl, ⟨A2, c2, by rw [hol]; rfl, Kd.S.of hs hol.symm rfl (hvals.to hg)⟩, hR.to hg, rfl⟩)
end Go.Proofs.YtchebkpcgglllaaGreat.Cu
