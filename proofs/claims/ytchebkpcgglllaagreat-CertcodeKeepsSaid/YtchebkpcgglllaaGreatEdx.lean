/- Edx: Ed1, Ed2, Ed3 in one text. -/
import Derived.Test.YtchebkpcgglllaaGreatWi6
import Derived.Test.YtchebkpcgglllaaGreatSoy
namespace Go.Proofs.YtchebkpcgglllaaGreat.Cu
open Go Go.SX Go.Proofs.YtchebkpcgglllaaGreat.VT
set_option maxRecDepth 100000
set_option linter.unusedVariables false
set_option linter.unusedSimpArgs false
/-- The error of the pair at j. -/
def ePr (vregs regs slots : Int) (ps : List Pr) (j : Nat) : Int := match ps[j]? with
  | some x => if x.v < 0 ∨ x.v ≥ vregs then 9 else if ¬ inRange x.l regs slots then 10 else if 0 < j ∧ ¬ ltP (ps.getD (j - 1) pr0) x then 13 else 0
  | none => 0
theorem ePr_is {vregs regs slots : Int} {ps : List Pr} {j : Nat} {x : Pr} (h : ps[j]? = some x) :
    ePr vregs regs slots ps j = if x.v < 0 ∨ x.v ≥ vregs then 9 else if ¬ inRange x.l regs slots then 10 else if 0 < j ∧ ¬ ltP (ps.getD (j - 1) pr0) x then 13 else 0 := by unfold ePr; rw [h]
def ePrs (vregs regs slots : Int) (ps : List Pr) : Int := firstN (ePr vregs regs slots ps) ps.length
def eInv (blocks vregs regs slots : Int) (l : List (List Pr)) : Int := if (l.length : Int) ≠ blocks then 14 else if tot l > 1048576 then 6 else first0 (ePrs vregs regs slots) l
theorem ePrs_at {vregs regs slots : Int} {ps : List Pr} {k : Nat} (hk : k < ps.length) (h0 : ∀ j, j < k → ePr vregs regs slots ps j = 0) (h1 : ePr vregs regs slots ps k ≠ 0) : ePrs vregs regs slots ps = ePr vregs regs slots ps k :=
  firstN_at _ k h1 h0 _ hk
theorem ePrs_zero {vregs regs slots : Int} {ps : List Pr} (h0 : ∀ j, j < ps.length → ePr vregs regs slots ps j = 0) : ePrs vregs regs slots ps = 0 := firstN_zero _ _ h0
theorem ePr_next {vregs regs slots : Int} {ps : List Pr} {k : Nat} (h0 : ∀ j, j < k → ePr vregs regs slots ps j = 0) (h : ePr vregs regs slots ps k = 0) : ∀ j, j < k + 1 → ePr vregs regs slots ps j = 0 := by
  intro j hj
  rcases Nat.lt_or_ge j k with h1 | h1
  · exact h0 j h1
  · have : j = k := by omega
    subst this; exact h
def IBase (blocks : Int) (l : List (List Pr)) : Prop := (l.length : Int) = blocks ∧ tot l ≤ 1048576
theorem eInv_base {blocks vregs regs slots : Int} {l : List (List Pr)} (h : IBase blocks l) : eInv blocks vregs regs slots l = first0 (ePrs vregs regs slots) l := by
  unfold eInv
  rw [if_neg (by have := h.1; omega), if_neg (by have := h.2; omega)]
theorem eInv_at {blocks vregs regs slots : Int} {l : List (List Pr)} (h : IBase blocks l) {k : Nat} {ps : List Pr} (hp : l[k]? = some ps) (h0 : ∀ j, j < k → eAt (ePrs vregs regs slots) l j = 0) (h1 : ePrs vregs regs slots ps ≠ 0) : eInv blocks vregs regs slots l = ePrs vregs regs slots ps := by
  rw [eInv_base h]
  unfold first0
  rw [firstN_at _ k (by rw [eAt_is hp]; exact h1) h0 _ (List.getElem?_eq_some_iff.1 hp).1, eAt_is hp]
theorem eInv_zero {blocks vregs regs slots : Int} {l : List (List Pr)} (h : IBase blocks l) (h0 : ∀ j, j < l.length → eAt (ePrs vregs regs slots) l j = 0) : eInv blocks vregs regs slots l = 0 := by
  rw [eInv_base h]
  exact firstN_zero _ _ h0
/-- No error is what is valid. -/
theorem ePr_chk {vregs regs slots : Int} {ps : List Pr} {j : Nat} {x : Pr} (h : ps[j]? = some x) : ePr vregs regs slots ps j = 0 ↔ chkP vregs regs slots ps j x := by
  rw [ePr_is h]
  unfold chkP
  constructor
  · intro h9
    split at h9
    · simp at h9
    split at h9
    · simp at h9
    split at h9
    · simp at h9
    rename_i h1 h2 h3
    exact ⟨by omega, Classical.not_not.1 h2, fun hj => Classical.byContradiction fun h8 => h3 ⟨hj, h8⟩⟩
  · rintro ⟨h1, h2, h3⟩
    rw [if_neg (by omega), if_neg (not_not_intro h2), if_neg]
    rintro ⟨h4, h5⟩
    exact h5 (h3 h4)
theorem ePrs_ok {vregs regs slots : Int} {ps : List Pr} : ePrs vregs regs slots ps = 0 ↔ okPrs vregs regs slots ps := by
  rw [okPrs_ix]
  unfold ePrs
  rw [firstN_iff]
  constructor
  · intro h j x hx
    exact (ePr_chk hx).1 (h j (List.getElem?_eq_some_iff.1 hx).1)
  · intro h j hj
    exact (ePr_chk (List.getElem?_eq_getElem hj)).2 (h j _ (List.getElem?_eq_getElem hj))
theorem eInv_ok {blocks vregs regs slots : Int} {l : List (List Pr)} : eInv blocks vregs regs slots l = 0 ↔ validI blocks vregs regs slots l := by
  unfold validI
  rw [okInv_tot]
  constructor
  · intro h
    have hb : IBase blocks l := by
      unfold eInv at h
      unfold IBase
      split at h
      · simp at h
      split at h
      · simp at h
      omega
    rw [eInv_base hb, first0_iff] at h
    exact ⟨hb.1, hb.2, fun x hx => ePrs_ok.1 (h x hx)⟩
  · rintro ⟨h1, h2, h3⟩
    rw [eInv_base ⟨h1, h2⟩, first0_iff]
    exact fun x hx => ePrs_ok.2 (h3 x hx)
/-! ### the program -/
theorem pless_fn (G : Gh) (a b : Pr) : Ct Tryz.prog 153 [a.sv, b.sv] [] G fun sv H' G' => sv = .v (.bool (decide (ltP a b))) ∧ H' = [] ∧ G' = G := by
  refine fn_of follows [] Tryz.func153 rfl rfl fun E hE => ?_
  repeat' ((fail_if_success with_reducible refine Stop.mk ?_);(conv=>whnf);with_reducible first|refine br_d (fun h=>?_) fun h=>?_|refine br_e (fun h=>?_) fun h=>?_|refine stop ?_)
  all_goals refine Stop.mk ?_
  all_goals
    refine fin_id hE 0 rfl rfl rfl rfl ⟨congrArg (fun b => SV.v (.bool b)) ?_, rfl, rfl⟩
    refine bdec ?_
    simp only [decide_eq_true_iff, ltP, beq_iff_eq, Bool.false_eq_true, false_iff, true_iff]
    omega
theorem etotal_fn (G : Gh) (A : Option Addr) (c : Nat) (l : List (List Pr)) (hl : kPrs.S G A c l) (h1 : l.length ≤ 1000000) (h2 : tot l ≤ 1000000000) :
    Ct Tryz.prog 133 [.v (.slice A l.length c)] [] G fun sv H' G' => sv = .v (.int .i64 (tot l)) ∧ H' = [] ∧ G' = G := by
  refine fn_of follows [] Tryz.func133 rfl rfl fun E hE => ?_
  have hcap := hl.cap
  repeat' ((fail_if_success with_reducible refine Stop.mk ?_);(conv=>whnf);with_reducible refine stop ?_)
  all_goals refine Stop.mk ?_
  refine loop_vars follows [] (α := Nat) (fun k => [(3, .v (.int .i64 (tot (l.take k)))), (8, .v (.int .i64 k))]) (fun x => []) (fun x => G) (fun k => k ≤ l.length) (fun k => l.length - k) 0
    (Nat.zero_le _) rfl rfl ?_ ?_
  ·
    refine ⟨?_⟩
    (conv => whnf)
    (repeat' (first | exact trivial | exact .inl rfl | exact .inr rfl | refine And.intro ?_ ?_))
  intro k hk
  have hw2 : IntKind.i64.wrap ((k : Int) + 1) = ((k + 1 : Nat) : Int) := by rw [i64_in (by omega) (by omega)]; simp
  have htt := tot_take l k
  have htl := tot_le l (k + 1)
  repeat' ((fail_if_success with_reducible refine Stop.mk ?_);(conv=>whnf);with_reducible first|refine br_d (fun h=>?_) fun h=>?_|refine stop ?_)
  all_goals refine Stop.mk ?_
  ·
    obtain ⟨_, hs_, hat_⟩ := hl.at (sz := 1) rfl
    refine ⟨⟨by omega, by omega⟩, _, hs_, fun ad had hadr => ?_⟩
    obtain ⟨ps, cells, hps, hRps, hGps⟩ := hat_ k (by omega) ad (by first | exact had | (rw [Int.toNat_natCast] at had; exact had))
    clear had hat_ hs_
    obtain ⟨A', c', rfl, hS⟩ := kPrs_R hRps
    replace htt := htt ps hps
    have hw3 : IntKind.i64.wrap ((tot (l.take k) : Int) + (ps.length : Int)) = ((tot (l.take (k + 1)) : Nat) : Int) := by rw [i64_in (by omega) (by omega), htt]; simp
    repeat' ((fail_if_success with_reducible refine Stop.mk ?_);(conv=>whnf);with_reducible refine stop ?_)
    all_goals refine Stop.mk ?_
    refine ⟨_, ld1 hGps, ?_⟩
    repeat' ((fail_if_success with_reducible refine Stop.mk ?_);(conv=>whnf);with_reducible refine stop ?_)
    all_goals refine Stop.mk ?_
    rw [hw2, hw3]
    refine tell_here ⟨k + 1, by omega, by show l.length - (k + 1) < l.length - k; omega, rfl, rfl, ?_⟩
    refine ⟨?_⟩
    (conv => whnf)
    (repeat' (first | exact trivial | exact .inl rfl | exact .inr rfl | refine And.intro ?_ ?_))
  · have hkl : k = l.length := by omega
    subst hkl
    rw [List.take_length]
    exact fin_id hE 0 rfl rfl rfl rfl ⟨rfl, rfl, rfl⟩
set_option maxHeartbeats 8000000 in
theorem epairs_fn (G : Gh) (A : Option Addr) (c : Nat) (ps : List Pr) (vregs regs slots : Int) (hl : kPr.S G A c ps) (h1 : ps.length ≤ 1000000000) :
    Ct Tryz.prog 134 [.v (.slice A ps.length c), .v (.int .i64 vregs), .v (.int .i64 regs), .v (.int .i64 slots)] [] G fun sv H' G' => sv = .v (.int .i64 (ePrs vregs regs slots ps)) ∧ H' = [] ∧ G' = G := by
  refine fn_of follows [(8, (.cons 0 [] (.cons 1 [] (.cons 2 [] (.cons 3 [] (.cons 4 [] (.cons 5 [] (.cons 6 [] (.cons 7 [] (.cons 8 [] (.cons 9 [7, 8] (.cons 10 [] (.cons 11 [] (.cons 12 [] .nil))))))))))))))] Tryz.func134 rfl rfl fun E hE => ?_
  have hcap := hl.cap
  repeat' ((fail_if_success with_reducible refine Stop.mk ?_);(conv=>whnf);with_reducible refine stop ?_)
  all_goals refine Stop.mk ?_
  refine loop_vars follows [(8, (.cons 0 [] (.cons 1 [] (.cons 2 [] (.cons 3 [] (.cons 4 [] (.cons 5 [] (.cons 6 [] (.cons 7 [] (.cons 8 [] (.cons 9 [7, 8] (.cons 10 [] (.cons 11 [] (.cons 12 [] .nil))))))))))))))] (α := Nat) (fun k => [(13, .v (.int .i64 k))]) (fun x => []) (fun x => G) (fun k => k ≤ ps.length ∧ ∀ j, j < k → ePr vregs regs slots ps j = 0) (fun k => ps.length - k) 0
    ⟨Nat.zero_le _, fun j h => absurd h (Nat.not_lt_zero _)⟩ rfl rfl ?_ ?_
  ·
    refine ⟨?_⟩
    (conv => whnf)
    (repeat' (first | exact trivial | exact .inl rfl | exact .inr rfl | refine And.intro ?_ ?_))
  intro j hJ
  obtain ⟨hj, hchk⟩ := hJ
  have hw3 : IntKind.i64.wrap ((j : Int) + 1) = ((j + 1 : Nat) : Int) := by rw [i64_in (by omega) (by omega)]; simp
  repeat' ((fail_if_success with_reducible refine Stop.mk ?_);(conv=>whnf);with_reducible first|refine br_d (fun h=>?_) fun h=>?_|refine stop ?_)
  all_goals refine Stop.mk ?_
  ·
    obtain ⟨_, hs_, hat_⟩ := hl.at (sz := 2) rfl
    refine ⟨⟨by omega, by omega⟩, _, hs_, fun ad had hadr => ?_⟩
    obtain ⟨p, cells, hp, hRp, hGp⟩ := hat_ j (by omega) ad (by first | exact had | (rw [Int.toNat_natCast] at had; exact had))
    clear had hat_ hs_
    obtain ⟨rfl, hp1, hp2⟩ := hRp
    have hat := ePrs_at (vregs := vregs) (regs := regs) (slots := slots) (List.getElem?_eq_some_iff.1 hp).1 hchk
    have hnx := ePr_next (vregs := vregs) (regs := regs) (slots := slots) hchk
    rw [ePr_is hp] at hat hnx
    repeat' ((fail_if_success with_reducible refine Stop.mk ?_);(conv=>whnf);with_reducible refine stop ?_)
    all_goals refine Stop.mk ?_
    refine ⟨_, rfl, hGp, ?_⟩
    repeat' ((fail_if_success with_reducible refine Stop.mk ?_);(conv=>whnf);with_reducible first|refine br_t ?_|refine br_d (fun h=>?_) fun h=>?_|refine stop ?_)
    all_goals refine Stop.mk ?_
    all_goals try
      refine fin_id hE 0 rfl rfl rfl rfl ⟨congrArg (fun e => SV.v (.int .i64 e)) ?_, rfl, rfl⟩
      rw [hat (by rw [if_pos (by omega)]; decide), if_pos (by omega)]
    have hno : ¬ (p.v < 0 ∨ p.v ≥ vregs) := by omega
    rw [if_neg hno] at hat hnx
    refine call_fn [] (inRange_fn _ p.l regs slots hp2) rfl trivial (by decide) ?_
    rintro sv H' G' ⟨rfl, rfl, rfl⟩ -
    refine ⟨Nat.le_of_ble_eq_true rfl, ?_⟩
    by_cases hin : inRange p.l regs slots
    · rw [decide_eq_true hin]
      rw [if_neg (not_not_intro hin)] at hat hnx
      repeat' ((fail_if_success with_reducible refine Stop.mk ?_);(conv=>whnf);with_reducible first|refine br_t ?_|refine br_f ?_|refine br_not ?_|refine br_d (fun h=>?_) fun h=>?_|refine drw (by kernel_rfl) ?_|refine stop ?_)
      all_goals refine Stop.mk ?_
      · obtain ⟨j', rfl⟩ : ∃ j', j = j' + 1 := ⟨j - 1, by omega⟩
        have hw4 : IntKind.i64.wrap (((j' + 1 : Nat) : Int) - 1) = (j' : Int) := by rw [i64_in (by omega) (by omega)]; omega
        rw [hw4]
        obtain ⟨_, hs_, hat_⟩ := hl.at (sz := 2) rfl
        refine ⟨⟨by omega, by omega⟩, _, hs_, fun ad had hadr => ?_⟩
        obtain ⟨q, cells, hq, hRq, hGq⟩ := hat_ j' (by omega) ad (by first | exact had | (rw [Int.toNat_natCast] at had; exact had))
        clear had hat_ hs_
        obtain ⟨rfl, hq1, hq2⟩ := hRq
        have hgq : ps.getD (j' + 1 - 1) pr0 = q := by rw [Nat.add_sub_cancel, List.getD_eq_getElem?_getD, hq]; rfl
        rw [hgq] at hat hnx
        repeat' ((fail_if_success with_reducible refine Stop.mk ?_);(conv=>whnf);with_reducible refine stop ?_)
        all_goals refine Stop.mk ?_
        refine ⟨_, rfl, hGq, ?_⟩
        repeat' ((fail_if_success with_reducible refine Stop.mk ?_);(conv=>whnf);with_reducible refine stop ?_)
        all_goals refine Stop.mk ?_
        refine call_fn [] (pless_fn _ q p) rfl trivial (by decide) ?_
        rintro sv H' G' ⟨rfl, rfl, rfl⟩ -
        refine ⟨Nat.le_of_ble_eq_true rfl, ?_⟩
        by_cases hlt : ltP q p
        · rw [decide_eq_true hlt]
          repeat' ((fail_if_success with_reducible refine Stop.mk ?_);(conv=>whnf);with_reducible first|refine br_t ?_|refine br_not ?_|refine stop ?_)
          all_goals refine Stop.mk ?_
          rw [if_neg (by rintro ⟨_, h9⟩; exact h9 hlt)] at hnx
          rw [hw3]
          refine tell_gc hE [] rfl rfl ?_
          (conv => whnf)
          refine tell_here ⟨j' + 1 + 1, ⟨by omega, hnx rfl⟩, by show ps.length - (j' + 1 + 1) < ps.length - (j' + 1); omega, rfl, rfl, ?_⟩
          refine ⟨?_⟩
          (conv => whnf)
          (repeat' (first | exact trivial | exact .inl rfl | exact .inr rfl | refine And.intro ?_ ?_))
        · rw [decide_eq_false hlt]
          rw [if_pos ⟨by omega, hlt⟩] at hat
          repeat' ((fail_if_success with_reducible refine Stop.mk ?_);(conv=>whnf);with_reducible first|refine br_f ?_|refine br_not ?_|refine stop ?_)
          all_goals refine Stop.mk ?_
          refine fin_id hE 0 rfl rfl rfl rfl ⟨congrArg (fun e => SV.v (.int .i64 e)) ?_, rfl, rfl⟩
          rw [hat (by decide)]
      · rw [if_neg (by rintro ⟨h9, _⟩; omega)] at hnx
        rw [hw3]
        refine tell_gc hE [] rfl rfl ?_
        (conv => whnf)
        refine tell_here ⟨j + 1, ⟨by omega, hnx rfl⟩, by show ps.length - (j + 1) < ps.length - j; omega, rfl, rfl, ?_⟩
        refine ⟨?_⟩
        (conv => whnf)
        (repeat' (first | exact trivial | exact .inl rfl | exact .inr rfl | refine And.intro ?_ ?_))
    · rw [decide_eq_false hin]
      rw [if_pos hin] at hat
      repeat' ((fail_if_success with_reducible refine Stop.mk ?_);(conv=>whnf);with_reducible first|refine br_f ?_|refine br_not ?_|refine stop ?_)
      all_goals refine Stop.mk ?_
      refine fin_id hE 0 rfl rfl rfl rfl ⟨congrArg (fun e => SV.v (.int .i64 e)) ?_, rfl, rfl⟩
      rw [hat (by decide)]
  · have hjl : j = ps.length := by omega
    subst hjl
    exact fin_id hE 0 rfl rfl rfl rfl ⟨by rw [ePrs_zero hchk], rfl, rfl⟩
end Go.Proofs.YtchebkpcgglllaaGreat.Cu

namespace Go.Proofs.YtchebkpcgglllaaGreat.Cu
open Go Go.SX Go.Proofs.YtchebkpcgglllaaGreat.VT
set_option maxRecDepth 100000
set_option linter.unusedVariables false
set_option linter.unusedSimpArgs false
set_option maxHeartbeats 8000000 in
theorem edgeValid_fn (G : Gh) (A : Option Addr) (c : Nat) (l : List (List Pr)) (blocks vregs regs slots : Int) (hl : kPrs.S G A c l) (h1 : l.length ≤ 1000000) (h2 : tot l ≤ 1000000000) :
    Ct Tryz.prog 91 [.v (.slice A l.length c), .v (.int .i64 blocks), .v (.int .i64 vregs), .v (.int .i64 regs), .v (.int .i64 slots)] [] G fun sv H' G' => sv = .v (.int .i64 (eInv blocks vregs regs slots l)) ∧ H' = [] ∧ G' = G := by
  refine fn_of follows [] Tryz.func91 rfl rfl fun E hE => ?_
  have hcap := hl.cap
  have hef : eInv blocks vregs regs slots l = if (l.length : Int) ≠ blocks then 14 else if tot l > 1048576 then 6 else first0 (ePrs vregs regs slots) l := rfl
  repeat' ((fail_if_success with_reducible refine Stop.mk ?_);(conv=>whnf);with_reducible first|refine br_n (fun h=>?_) fun h=>?_|refine stop ?_)
  all_goals refine Stop.mk ?_
  rotate_left
  · refine fin_id hE 0 rfl rfl rfl rfl ⟨congrArg (fun e => SV.v (.int .i64 e)) ?_, rfl, rfl⟩
    rw [hef, if_pos (by assumption)]
  refine call_fn [] (etotal_fn _ A c l hl h1 h2) rfl trivial (by decide) ?_
  rintro sv H' G' ⟨rfl, rfl, rfl⟩ -
  refine ⟨Nat.le_of_ble_eq_true rfl, ?_⟩
  have hne : ¬ (l.length : Int) ≠ blocks := by omega
  rw [if_neg hne] at hef
  repeat' ((fail_if_success with_reducible refine Stop.mk ?_);(conv=>whnf);with_reducible first|refine br_d (fun h=>?_) fun h=>?_|refine stop ?_)
  all_goals refine Stop.mk ?_
  · refine fin_id hE 0 rfl rfl rfl rfl ⟨congrArg (fun e => SV.v (.int .i64 e)) ?_, rfl, rfl⟩
    rw [hef, if_pos (by omega)]
  have hbase : IBase blocks l := ⟨by omega, by omega⟩
  clear hef
  refine loop_vars follows [] (α := Nat) (fun k => [(25, .v (.int .i64 k))]) (fun x => []) (fun x => G') (fun k => k ≤ l.length ∧ ∀ j, j < k → eAt (ePrs vregs regs slots) l j = 0) (fun k => l.length - k) 0
    ⟨Nat.zero_le _, fun j h => absurd h (Nat.not_lt_zero _)⟩ rfl rfl ?_ ?_
  ·
    refine ⟨?_⟩
    (conv => whnf)
    (repeat' (first | exact trivial | exact .inl rfl | exact .inr rfl | refine And.intro ?_ ?_))
  intro k hI
  obtain ⟨hk, hall⟩ := hI
  have hw2 : IntKind.i64.wrap ((k : Int) + 1) = ((k + 1 : Nat) : Int) := by rw [i64_in (by omega) (by omega)]; simp
  repeat' ((fail_if_success with_reducible refine Stop.mk ?_);(conv=>whnf);with_reducible first|refine br_d (fun h=>?_) fun h=>?_|refine stop ?_)
  all_goals refine Stop.mk ?_
  ·
    obtain ⟨_, hs_, hat_⟩ := hl.at (sz := 1) rfl
    refine ⟨⟨by omega, by omega⟩, _, hs_, fun ad had hadr => ?_⟩
    obtain ⟨ps, cells, hps, hRps, hGps⟩ := hat_ k (by omega) ad (by first | exact had | (rw [Int.toNat_natCast] at had; exact had))
    clear had hat_ hs_
    obtain ⟨A', c', rfl, hS⟩ := kPrs_R hRps
    have hpl : ps.length ≤ tot l := by
      have h3 := tot_take l k ps hps
      have h4 := tot_le l (k + 1)
      omega
    have hat := eInv_at (vregs := vregs) (regs := regs) (slots := slots) hbase hps hall
    repeat' ((fail_if_success with_reducible refine Stop.mk ?_);(conv=>whnf);with_reducible refine stop ?_)
    all_goals refine Stop.mk ?_
    refine ⟨_, ld1 hGps, ?_⟩
    repeat' ((fail_if_success with_reducible refine Stop.mk ?_);(conv=>whnf);with_reducible refine stop ?_)
    all_goals refine Stop.mk ?_
    refine call_fn [] (epairs_fn _ A' c' ps vregs regs slots hS (by omega)) rfl trivial (by decide) ?_
    rintro sv H' G' ⟨rfl, rfl, rfl⟩ -
    refine ⟨Nat.le_of_ble_eq_true rfl, ?_⟩
    generalize hep : ePrs vregs regs slots ps = e at *
    repeat' ((fail_if_success with_reducible refine Stop.mk ?_);(conv=>whnf);with_reducible first|refine br_n (fun h=>?_) fun h=>?_|refine stop ?_)
    all_goals refine Stop.mk ?_
    rotate_left
    · refine fin_id hE 0 rfl rfl rfl rfl ⟨congrArg (fun e => SV.v (.int .i64 e)) ?_, rfl, rfl⟩
      rw [hat (by assumption)]
    · have he0 : e = 0 := by omega
      rw [hw2]
      refine tell_here ⟨k + 1, ⟨by omega, eAtS_next hps hall (by rw [hep]; exact he0)⟩, by show l.length - (k + 1) < l.length - k; omega, rfl, rfl, ?_⟩
      refine ⟨?_⟩
      (conv => whnf)
      (repeat' (first | exact trivial | exact .inl rfl | exact .inr rfl | refine And.intro ?_ ?_))
  · have hkl : k = l.length := by omega
    subst hkl
    exact fin_id hE 0 rfl rfl rfl rfl ⟨by rw [eInv_zero hbase hall], rfl, rfl⟩
end Go.Proofs.YtchebkpcgglllaaGreat.Cu

namespace Go.Proofs.YtchebkpcgglllaaGreat.Cu
open Go Go.SX Go.Proofs.YtchebkpcgglllaaGreat.VT
set_option maxRecDepth 100000
set_option linter.unusedVariables false
set_option linter.unusedSimpArgs false
set_option maxHeartbeats 8000000 in
theorem valid15E_fn (G : Gh) (A : Option Addr) (c : Nat) (l : List (List Pr)) (blocks vregs regs slots : Int) (hl : kPrs.S G A c l) (hbig : l.length ≤ 1000000 ∧ ∀ x ∈ l, x.length ≤ 1000000000) :
    Ct Tryz.prog 55 [.v (.slice A l.length c), .v (.int .i64 blocks), .v (.int .i64 vregs), .v (.int .i64 regs), .v (.int .i64 slots)] [] G fun sv H' G' => sv = .v (.int .i64 (eInv blocks vregs regs slots l)) ∧ H' = [] ∧ G' = G := by
  refine fn_of follows [(21, (.cons 0 [] (.cons 1 [] (.cons 2 [] (.cons 3 [] (.cons 4 [] (.cons 5 [] (.cons 6 [] (.cons 7 [] (.cons 8 [] (.cons 9 [] (.cons 10 [] (.cons 11 [] (.cons 12 [6, 10, 11] (.cons 13 [] (.cons 14 [] .nil))))))))))))))))] Tryz.func55 rfl rfl fun E hE => ?_
  have hcap := hl.cap
  have hef : eInv blocks vregs regs slots l = if (l.length : Int) ≠ blocks then 14 else if tot l > 1048576 then 6 else first0 (ePrs vregs regs slots) l := rfl
  repeat' ((fail_if_success with_reducible refine Stop.mk ?_);(conv=>whnf);with_reducible first|refine br_n (fun h=>?_) fun h=>?_|refine stop ?_)
  all_goals refine Stop.mk ?_
  rotate_left
  · refine fin_id hE 0 rfl rfl rfl rfl ⟨congrArg (fun e => SV.v (.int .i64 e)) ?_, rfl, rfl⟩
    rw [hef, if_pos (by assumption)]
  have hlb : (l.length : Int) = blocks := by omega
  rw [if_neg (not_not_intro hlb)] at hef
  refine loop_vars follows [(21, (.cons 0 [] (.cons 1 [] (.cons 2 [] (.cons 3 [] (.cons 4 [] (.cons 5 [] (.cons 6 [] (.cons 7 [] (.cons 8 [] (.cons 9 [] (.cons 10 [] (.cons 11 [] (.cons 12 [6, 10, 11] (.cons 13 [] (.cons 14 [] .nil))))))))))))))))] (α := Nat) (fun k => [(11, .v (.int .i64 (tot (l.take k)))), (12, .v (.int .i64 k))]) (fun x => []) (fun x => G) (fun k => k ≤ l.length ∧ tot (l.take k) ≤ 1048576) (fun k => l.length - k) 0
    ⟨Nat.zero_le _, by simp [tot]⟩ rfl rfl ?_ ?_
  ·
    refine ⟨?_⟩
    (conv => whnf)
    (repeat' (first | exact trivial | exact .inl rfl | exact .inr rfl | refine And.intro ?_ ?_))
  intro k hI
  obtain ⟨hk, htk⟩ := hI
  have hw2 : IntKind.i64.wrap ((k : Int) + 1) = ((k + 1 : Nat) : Int) := by rw [i64_in (by omega) (by omega)]; simp
  have htt := tot_take l k
  have htl := tot_le l (k + 1)
  repeat' ((fail_if_success with_reducible refine Stop.mk ?_);(conv=>whnf);with_reducible first|refine br_d (fun h=>?_) fun h=>?_|refine stop ?_)
  all_goals refine Stop.mk ?_
  ·
    obtain ⟨_, hs_, hat_⟩ := hl.at (sz := 1) rfl
    refine ⟨⟨by omega, by omega⟩, _, hs_, fun ad had hadr => ?_⟩
    obtain ⟨ps, cells, hps, hRps, hGps⟩ := hat_ k (by omega) ad (by first | exact had | (rw [Int.toNat_natCast] at had; exact had))
    clear had hat_ hs_
    obtain ⟨A', c', rfl, hS⟩ := kPrs_R hRps
    have hpl := hbig.2 ps (List.mem_of_getElem? hps)
    replace htt := htt ps hps
    have hw3 : IntKind.i64.wrap ((tot (l.take k) : Int) + (ps.length : Int)) = ((tot (l.take (k + 1)) : Nat) : Int) := by rw [i64_in (by omega) (by omega), htt]; simp
    repeat' ((fail_if_success with_reducible refine Stop.mk ?_);(conv=>whnf);with_reducible refine stop ?_)
    all_goals refine Stop.mk ?_
    refine ⟨_, ld1 hGps, ?_⟩
    repeat' ((fail_if_success with_reducible refine Stop.mk ?_);(conv=>whnf);with_reducible first|refine br_d (fun h=>?_) fun h=>?_|refine stop ?_)
    all_goals refine Stop.mk ?_
    all_goals rw [hw3] at h
    · refine fin_id hE 0 rfl rfl rfl rfl ⟨congrArg (fun e => SV.v (.int .i64 e)) ?_, rfl, rfl⟩
      rw [hef, if_pos (by omega)]
    · rw [hw2, hw3]
      refine tell_here ⟨k + 1, ⟨by omega, by omega⟩, by show l.length - (k + 1) < l.length - k; omega, rfl, rfl, ?_⟩
      refine ⟨?_⟩
      (conv => whnf)
      (repeat' (first | exact trivial | exact .inl rfl | exact .inr rfl | refine And.intro ?_ ?_))
  · obtain rfl : k = l.length := by omega
    rw [List.take_length] at htk
    clear hw2 htt htl hef
    have hbase : IBase blocks l := ⟨hlb, htk⟩
    refine loop_opq fun K0 hK0 => ?_
    refine loop_vars follows [(21, (.cons 0 [] (.cons 1 [] (.cons 2 [] (.cons 3 [] (.cons 4 [] (.cons 5 [] (.cons 6 [] (.cons 7 [] (.cons 8 [] (.cons 9 [] (.cons 10 [] (.cons 11 [] (.cons 12 [6, 10, 11] (.cons 13 [] (.cons 14 [] .nil))))))))))))))))] (α := Nat) (fun k => [(13, .v (.int .i64 k))]) (fun x => []) (fun x => G) (fun k => k ≤ l.length ∧ ∀ j, j < k → eAt (ePrs vregs regs slots) l j = 0) (fun k => l.length - k) 0
      ⟨Nat.zero_le _, fun j h => absurd h (Nat.not_lt_zero _)⟩ rfl rfl ?_ ?_
    ·
      refine ⟨?_⟩
      (conv => whnf)
      (repeat' (first | exact trivial | exact .inl rfl | exact .inr rfl | refine And.intro ?_ ?_))
    intro k hI
    obtain ⟨hk2, hall⟩ := hI
    have hw2 : IntKind.i64.wrap ((k : Int) + 1) = ((k + 1 : Nat) : Int) := by rw [i64_in (by omega) (by omega)]; simp
    repeat' ((fail_if_success with_reducible refine Stop.mk ?_);(conv=>whnf);with_reducible first|refine br_d (fun h=>?_) fun h=>?_|refine stop ?_)
    all_goals refine Stop.mk ?_
    · have hkl : k < l.length := by omega
      obtain ⟨ps, hps⟩ : ∃ ps, l[k]? = some ps := ⟨_, List.getElem?_eq_getElem hkl⟩
      have hpl := hbig.2 ps (List.mem_of_getElem? hps)
      have hat := eInv_at (vregs := vregs) (regs := regs) (slots := slots) hbase hps hall
      refine loop_opq fun K1 hK1 => ?_
      refine loop_vars follows [(21, (.cons 0 [] (.cons 1 [] (.cons 2 [] (.cons 3 [] (.cons 4 [] (.cons 5 [] (.cons 6 [] (.cons 7 [] (.cons 8 [] (.cons 9 [] (.cons 10 [] (.cons 11 [] (.cons 12 [6, 10, 11] (.cons 13 [] (.cons 14 [] .nil))))))))))))))))] (α := Nat) (fun k => [(14, .v (.int .i64 k))]) (fun x => []) (fun x => G) (fun j => j ≤ ps.length ∧ ∀ i, i < j → ePr vregs regs slots ps i = 0) (fun j => ps.length - j) 0
        ⟨Nat.zero_le _, fun i h => absurd h (Nat.not_lt_zero _)⟩ rfl rfl ?_ ?_
      ·
        refine ⟨?_⟩
        (conv => whnf)
        (repeat' (first | exact trivial | exact .inl rfl | exact .inr rfl | refine And.intro ?_ ?_))
      intro j hJ
      obtain ⟨hj, hchk⟩ := hJ
      have hw3 : IntKind.i64.wrap ((j : Int) + 1) = ((j + 1 : Nat) : Int) := by rw [i64_in (by omega) (by omega)]; simp
      repeat' ((fail_if_success with_reducible refine Stop.mk ?_);(conv=>whnf);with_reducible refine stop ?_)
      all_goals refine Stop.mk ?_
      obtain ⟨_, hs_, hat_⟩ := hl.at (sz := 1) rfl
      refine ⟨⟨by omega, by omega⟩, _, hs_, fun ad had hadr => ?_⟩
      obtain ⟨u, cells, hu, hRu, hGu⟩ := hat_ k (by omega) ad (by first | exact had | (rw [Int.toNat_natCast] at had; exact had))
      clear had hat_ hs_
      obtain ⟨Au, cu, rfl, Su⟩ := kPrs_R hRu
      obtain rfl := Option.some.inj (hps.symm.trans hu)
      repeat' ((fail_if_success with_reducible refine Stop.mk ?_);(conv=>whnf);with_reducible refine stop ?_)
      all_goals refine Stop.mk ?_
      refine ⟨_, ld1 hGu, ?_⟩
      repeat' ((fail_if_success with_reducible refine Stop.mk ?_);(conv=>whnf);with_reducible first|refine br_d (fun h=>?_) fun h=>?_|refine stop ?_)
      all_goals refine Stop.mk ?_
      ·
        obtain ⟨_, hs_, hat_⟩ := hl.at (sz := 1) rfl
        refine ⟨⟨by omega, by omega⟩, _, hs_, fun ad had hadr => ?_⟩
        obtain ⟨w, cells, hw, hRw, hGw⟩ := hat_ k (by omega) ad (by first | exact had | (rw [Int.toNat_natCast] at had; exact had))
        clear had hat_ hs_
        obtain ⟨Aw, cw, rfl, Sw⟩ := kPrs_R hRw
        obtain rfl := Option.some.inj (hps.symm.trans hw)
        repeat' ((fail_if_success with_reducible refine Stop.mk ?_);(conv=>whnf);with_reducible refine stop ?_)
        all_goals refine Stop.mk ?_
        refine ⟨_, ld1 hGw, ?_⟩
        repeat' ((fail_if_success with_reducible refine Stop.mk ?_);(conv=>whnf);with_reducible refine stop ?_)
        all_goals refine Stop.mk ?_
        obtain ⟨_, hs_, hat_⟩ := Sw.at (sz := 2) rfl
        refine ⟨⟨by omega, by omega⟩, _, hs_, fun ad had hadr => ?_⟩
        obtain ⟨p, cells, hp, hRp, hGp⟩ := hat_ j (by omega) ad (by first | exact had | (rw [Int.toNat_natCast] at had; exact had))
        clear had hat_ hs_
        obtain ⟨rfl, hp1, hp2⟩ := hRp
        have hjl : j < ps.length := (List.getElem?_eq_some_iff.1 hp).1
        have hpe := ePr_is (vregs := vregs) (regs := regs) (slots := slots) hp
        have hbad : ∀ e, ePr vregs regs slots ps j = e → e ≠ 0 → e = eInv blocks vregs regs slots l := fun e h8 h9 => by
          have h7 := ePrs_at hjl hchk (by rw [h8]; exact h9)
          rw [hat (by rw [h7, h8]; exact h9), h7, h8]
        repeat' ((fail_if_success with_reducible refine Stop.mk ?_);(conv=>whnf);with_reducible refine stop ?_)
        all_goals refine Stop.mk ?_
        refine ⟨_, rfl, hGp, ?_⟩
        repeat' ((fail_if_success with_reducible refine Stop.mk ?_);(conv=>whnf);with_reducible first|refine br_t ?_|refine br_d (fun h=>?_) fun h=>?_|refine stop ?_)
        all_goals refine Stop.mk ?_
        · refine Stop.mk (hK1 _ _ ?_)
          clear hK1
          repeat' ((fail_if_success with_reducible refine Stop.mk ?_);(conv=>whnf);with_reducible first|refine br_t ?_|refine br_f ?_|refine br_nn ?_|refine br_ns ?_|refine br_not ?_|refine br_d (fun h=>?_) fun h=>?_|refine br_e (fun h=>?_) fun h=>?_|refine br_n (fun h=>?_) fun h=>?_|refine drw (by kernel_rfl) ?_|refine chk (by kernel_rfl) ?_|refine stop ?_)
          all_goals refine Stop.mk ?_
          first
            | refine Stop.mk (hK0 _ _ ?_)
            | refine hK0 _ _ ?_
          clear hK0
          repeat' ((fail_if_success with_reducible refine Stop.mk ?_);(conv=>whnf);with_reducible refine stop ?_)
          all_goals refine Stop.mk ?_
          refine fin_id hE 0 rfl rfl rfl rfl ⟨congrArg (fun e => SV.v (.int .i64 e)) (hbad _ ?_ (by decide)), rfl, rfl⟩
          rw [hpe, if_pos (by omega)]
        · refine Stop.mk (hK1 _ _ ?_)
          clear hK1
          repeat' ((fail_if_success with_reducible refine Stop.mk ?_);(conv=>whnf);with_reducible first|refine br_t ?_|refine br_f ?_|refine br_nn ?_|refine br_ns ?_|refine br_not ?_|refine br_d (fun h=>?_) fun h=>?_|refine br_e (fun h=>?_) fun h=>?_|refine br_n (fun h=>?_) fun h=>?_|refine drw (by kernel_rfl) ?_|refine chk (by kernel_rfl) ?_|refine stop ?_)
          all_goals refine Stop.mk ?_
          first
            | refine Stop.mk (hK0 _ _ ?_)
            | refine hK0 _ _ ?_
          clear hK0
          repeat' ((fail_if_success with_reducible refine Stop.mk ?_);(conv=>whnf);with_reducible refine stop ?_)
          all_goals refine Stop.mk ?_
          refine fin_id hE 0 rfl rfl rfl rfl ⟨congrArg (fun e => SV.v (.int .i64 e)) (hbad _ ?_ (by decide)), rfl, rfl⟩
          rw [hpe, if_pos (by omega)]
        ·
          refine call_fn [] (rinRange_fn _ p.l regs slots hp2) rfl trivial (by decide) ?_
          rintro sv H' G' ⟨rfl, rfl, rfl⟩ -
          refine ⟨Nat.le_of_ble_eq_true rfl, ?_⟩
          repeat' ((fail_if_success with_reducible refine Stop.mk ?_);(conv=>whnf);with_reducible first|refine br_f ?_|refine br_not ?_|refine br_d (fun h=>?_) fun h=>?_|refine drw (by kernel_rfl) ?_|refine stop ?_)
          all_goals refine Stop.mk ?_
          rotate_left 2
          · refine Stop.mk (hK1 _ _ ?_)
            clear hK1
            repeat' ((fail_if_success with_reducible refine Stop.mk ?_);(conv=>whnf);with_reducible first|refine br_t ?_|refine br_f ?_|refine br_nn ?_|refine br_ns ?_|refine br_not ?_|refine br_d (fun h=>?_) fun h=>?_|refine br_e (fun h=>?_) fun h=>?_|refine br_n (fun h=>?_) fun h=>?_|refine drw (by kernel_rfl) ?_|refine chk (by kernel_rfl) ?_|refine stop ?_)
            all_goals refine Stop.mk ?_
            first
              | refine Stop.mk (hK0 _ _ ?_)
              | refine hK0 _ _ ?_
            clear hK0
            repeat' ((fail_if_success with_reducible refine Stop.mk ?_);(conv=>whnf);with_reducible refine stop ?_)
            all_goals refine Stop.mk ?_
            refine fin_id hE 0 rfl rfl rfl rfl ⟨congrArg (fun e => SV.v (.int .i64 e)) (hbad _ ?_ (by decide)), rfl, rfl⟩
            rw [hpe, if_neg (by omega), if_pos (by assumption)]
          · have hin : inRange p.l regs slots := by assumption
            obtain ⟨j', rfl⟩ : ∃ j', j = j' + 1 := ⟨j - 1, by omega⟩
            have hw4 : IntKind.i64.wrap (((j' + 1 : Nat) : Int) - 1) = (j' : Int) := by rw [i64_in (by omega) (by omega)]; omega
            obtain ⟨_, hs_, hat_⟩ := hl.at (sz := 1) rfl
            refine ⟨⟨by omega, by omega⟩, _, hs_, fun ad had hadr => ?_⟩
            obtain ⟨z, cells, hz, hRz, hGz⟩ := hat_ k (by omega) ad (by first | exact had | (rw [Int.toNat_natCast] at had; exact had))
            clear had hat_ hs_
            obtain ⟨Az, cz, rfl, Sz⟩ := kPrs_R hRz
            obtain rfl := Option.some.inj (hps.symm.trans hz)
            repeat' ((fail_if_success with_reducible refine Stop.mk ?_);(conv=>whnf);with_reducible refine stop ?_)
            all_goals refine Stop.mk ?_
            refine ⟨_, ld1 hGz, ?_⟩
            repeat' ((fail_if_success with_reducible refine Stop.mk ?_);(conv=>whnf);with_reducible refine stop ?_)
            all_goals refine Stop.mk ?_
            rw [hw4]
            obtain ⟨_, hs_, hat_⟩ := Sz.at (sz := 2) rfl
            refine ⟨⟨by omega, by omega⟩, _, hs_, fun ad had hadr => ?_⟩
            obtain ⟨q, cells, hq, hRq, hGq⟩ := hat_ j' (by omega) ad (by first | exact had | (rw [Int.toNat_natCast] at had; exact had))
            clear had hat_ hs_
            obtain ⟨rfl, hq1, hq2⟩ := hRq
            have hgq : ps.getD (j' + 1 - 1) pr0 = q := by rw [Nat.add_sub_cancel, List.getD_eq_getElem?_getD, hq]; rfl
            repeat' ((fail_if_success with_reducible refine Stop.mk ?_);(conv=>whnf);with_reducible refine stop ?_)
            all_goals refine Stop.mk ?_
            refine ⟨_, rfl, hGq, ?_⟩
            repeat' ((fail_if_success with_reducible refine Stop.mk ?_);(conv=>whnf);with_reducible refine stop ?_)
            all_goals refine Stop.mk ?_
            refine call_fn [] (rless_fn _ q p) rfl trivial (by decide) ?_
            rintro sv H' G' ⟨rfl, rfl, rfl⟩ -
            refine ⟨Nat.le_of_ble_eq_true rfl, ?_⟩
            repeat' ((fail_if_success with_reducible refine Stop.mk ?_);(conv=>whnf);with_reducible first|refine br_not ?_|refine br_d (fun h=>?_) fun h=>?_|refine stop ?_)
            all_goals refine Stop.mk ?_
            · have hgood : ePr vregs regs slots ps (j' + 1) = 0 := by rw [hpe, if_neg (by omega), if_neg (not_not_intro hin), if_neg (fun h9 => h9.2 (by rw [hgq]; assumption))]
              rw [hw3]
              refine tell_gc hE [] rfl rfl ?_
              (conv => whnf)
              refine tell_here ⟨j' + 1 + 1, ⟨by omega, ePr_next hchk hgood⟩, by show ps.length - (j' + 1 + 1) < ps.length - (j' + 1); omega, rfl, rfl, ?_⟩
              refine ⟨?_⟩
              (conv => whnf)
              (repeat' (first | exact trivial | exact .inl rfl | exact .inr rfl | refine And.intro ?_ ?_))
            · refine Stop.mk (hK1 _ _ ?_)
              clear hK1
              repeat' ((fail_if_success with_reducible refine Stop.mk ?_);(conv=>whnf);with_reducible first|refine br_t ?_|refine br_f ?_|refine br_nn ?_|refine br_ns ?_|refine br_not ?_|refine br_d (fun h=>?_) fun h=>?_|refine br_e (fun h=>?_) fun h=>?_|refine br_n (fun h=>?_) fun h=>?_|refine drw (by kernel_rfl) ?_|refine chk (by kernel_rfl) ?_|refine stop ?_)
              all_goals refine Stop.mk ?_
              first
                | refine Stop.mk (hK0 _ _ ?_)
                | refine hK0 _ _ ?_
              clear hK0
              repeat' ((fail_if_success with_reducible refine Stop.mk ?_);(conv=>whnf);with_reducible refine stop ?_)
              all_goals refine Stop.mk ?_
              refine fin_id hE 0 rfl rfl rfl rfl ⟨congrArg (fun e => SV.v (.int .i64 e)) (hbad _ ?_ (by decide)), rfl, rfl⟩
              rw [hpe, if_neg (by omega), if_neg (not_not_intro hin), if_pos ⟨by omega, by rw [hgq]; assumption⟩]
          · have hin : inRange p.l regs slots := by assumption
            have hgood : ePr vregs regs slots ps j = 0 := by rw [hpe, if_neg (by omega), if_neg (not_not_intro hin), if_neg (fun h9 => absurd h9.1 (by omega))]
            rw [hw3]
            refine tell_gc hE [] rfl rfl ?_
            (conv => whnf)
            refine tell_here ⟨j + 1, ⟨by omega, ePr_next hchk hgood⟩, by show ps.length - (j + 1) < ps.length - j; omega, rfl, rfl, ?_⟩
            refine ⟨?_⟩
            (conv => whnf)
            (repeat' (first | exact trivial | exact .inl rfl | exact .inr rfl | refine And.intro ?_ ?_))
      · have hjl : j = ps.length := by omega
        subst hjl
        refine Stop.mk (hK1 _ _ ?_)
        clear hK1
        repeat' ((fail_if_success with_reducible refine Stop.mk ?_);(conv=>whnf);with_reducible refine stop ?_)
        all_goals refine Stop.mk ?_
        rw [hw2]
        refine tell_here ⟨k + 1, ⟨by omega, eAtS_next hps hall (ePrs_zero hchk)⟩, by show l.length - (k + 1) < l.length - k; omega, rfl, rfl, ?_⟩
        refine ⟨?_⟩
        (conv => whnf)
        (repeat' (first | exact trivial | exact .inl rfl | exact .inr rfl | refine And.intro ?_ ?_))
    · have hkl : k = l.length := by omega
      subst hkl
      refine Stop.mk (hK0 _ _ ?_)
      clear hK0
      repeat' ((fail_if_success with_reducible refine Stop.mk ?_);(conv=>whnf);with_reducible refine stop ?_)
      all_goals refine Stop.mk ?_
      exact fin_id hE 0 rfl rfl rfl rfl ⟨by rw [eInv_zero hbase hall], rfl, rfl⟩
end Go.Proofs.YtchebkpcgglllaaGreat.Cu
