/- Iny: In5, In6, In7, In8 in one text. -/
import Derived.Test.YtchebkpcgglllaaGreatInx
import Derived.Test.YtchebkpcgglllaaGreatIn4e
import Derived.Test.YtchebkpcgglllaaGreatNux
namespace Go.Proofs.YtchebkpcgglllaaGreat.Cu
open Go Go.SX Go.Proofs.YtchebkpcgglllaaGreat.VT
set_option maxRecDepth 100000
set_option linter.unusedVariables false
set_option linter.unusedSimpArgs false

def trmKind (k : Int) : Bool := decide (1 ≤ k ∧ k ≤ 3)
def trm0 : Trm := ⟨0, 0, 0, 0⟩
def sTf (k regs blocks : Int) (p : Ps) : (Int × Int × Int) × Ps :=
  let a := optN (decide (k ≠ 1)) regs 9 p
  let t := optN (decide (k ≠ 3)) blocks 11 a.2
  let e := optN (decide (k = 2)) blocks 11 t.2
  ((a.1, t.1, e.1), e.2)
theorem sTf_suf (k regs blocks : Int) (p : Ps) : (sTf k regs blocks p).2.1 <:+ p.1 := (optN_suf _ _ _ _).trans ((optN_suf _ _ _ _).trans (optN_suf _ _ _ _))
def sTrm (regs blocks : Int) (p : Ps) : Trm × Ps :=
  let b := sFirst trmKind 16 p
  let f := sTf b.1 regs blocks b.2
  (if f.2.2 = 0 then ⟨b.1, f.1.1, f.1.2.1, f.1.2.2⟩ else trm0, f.2)
theorem sTrm_suf (regs blocks : Int) (p : Ps) : (sTrm regs blocks p).2.1 <:+ p.1 := (sTf_suf _ _ _ _).trans (sFirst_suf _ _ _)
set_option maxHeartbeats 8000000 in
theorem term_fn {G : Gh} {A : Option Addr} {bs : List Int} {c : Nat} {p : Ps} (regs blocks : Int) (h : CurOK G A c bs p) (hr : 0 ≤ regs ∧ regs ≤ 9223372036854775807) (hb : 0 ≤ blocks ∧ blocks ≤ 9223372036854775807) :
    Ct Tryz.prog 119 [.p 0 0, .v (.int .i64 regs), .v (.int .i64 blocks)] [curL A bs c p] G fun sv H' G' => sv = (sTrm regs blocks p).1.sv ∧ H' = [curL A bs c (sTrm regs blocks p).2] ∧ G' = G := by
  have hbr := sByte_range h.isb
  obtain ⟨k, hk⟩ : ∃ k, k = (sByte p).1 := ⟨_, rfl⟩
  obtain ⟨q, hq⟩ : ∃ q, q = (sFirst trmKind 16 p).2 := ⟨_, rfl⟩
  have hc : CurOK G A c bs q := hq ▸ h.next (sFirst_suf _ _ _)
  have hk1 : (sFirst trmKind 16 p).1 = k := hk.symm
  have hfin : ∀ a t e r, sTf k regs blocks q = ((a, t, e), r) → sTrm regs blocks p = (if r.2 = 0 then ⟨k, a, t, e⟩ else trm0, r) := by
    intro a t e r hf
    simp only [sTrm, hk1, ← hq, hf]
  have hfl : sTf k regs blocks q = sTf k regs blocks q := rfl
  conv at hfl => rhs; unfold sTf
  generalize sTf k regs blocks q = fl at hfl hfin
  have hq3 : (k = 1 ∨ k = 2 ∨ k = 3) ∨ (k ≠ 1 ∧ k ≠ 2 ∧ k ≠ 3) := by omega
  refine fn_of follows [] Tryz.func119 rfl rfl fun E hE => ?_
  repeat' ((fail_if_success with_reducible refine Stop.mk ?_);(conv=>whnf);with_reducible refine stop ?_)
  all_goals refine Stop.mk ?_
  refine call_fn [0] (pbyte_fn h) rfl ⟨rfl, trivial⟩ (by decide) ?_
  rintro sv H' G' ⟨rfl, rfl, rfl⟩ -
  refine ⟨Nat.le_of_ble_eq_true rfl, ?_⟩
  have hw : IntKind.i64.wrap (sByte p).1 = k := by rw [hk]; exact i64_in (by omega) (by omega)
  repeat' ((fail_if_success with_reducible refine Stop.mk ?_);(conv=>whnf);first|with_reducible refine br_t ?_|((with_reducible refine br_d (fun h=>?_) fun h=>?_) <;> try (exfalso; omega))|((with_reducible refine br_n (fun h=>?_) fun h=>?_) <;> try (exfalso; omega))|with_reducible refine stop ?_)
  all_goals refine Stop.mk ?_
  all_goals rw [hw]
  all_goals try
    refine call_fn [0] (pfail_fn 16 (p := (sByte p).2)) rfl ⟨rfl, trivial⟩ (by decide) ?_
    rintro sv H' G' ⟨rfl, rfl, rfl⟩ -
    refine ⟨Nat.le_of_ble_eq_true rfl, ?_⟩
    repeat' ((fail_if_success with_reducible refine Stop.mk ?_);(conv=>whnf);first|((with_reducible refine br_n (fun h=>?_) fun h=>?_) <;> try (exfalso; omega))|with_reducible refine stop ?_)
    all_goals refine Stop.mk ?_
    have hq' : sFail 16 (sByte p).2 = q := by rw [hq]; unfold sFirst trmKind; rw [← hk]; simp only [decide_eq_true_iff]; rw [if_neg (by omega)]
    rw [hq']
  all_goals try
    have hq' : (sByte p).2 = q := by rw [hq]; unfold sFirst trmKind; rw [← hk]; simp only [decide_eq_true_iff]; rw [if_pos (by omega)]
    rw [hq']
  all_goals try
    refine call_fn [0] (number_fn regs 9 hc hr) rfl ⟨rfl, trivial⟩ (by decide) ?_
    rintro sv H' G' ⟨rfl, rfl, rfl⟩ -
    refine ⟨Nat.le_of_ble_eq_true rfl, ?_⟩
    have hc1 := hc.next (sNum_suf regs 9 _)
    repeat' ((fail_if_success with_reducible refine Stop.mk ?_);(conv=>whnf);first|((with_reducible refine br_e (fun h=>?_) fun h=>?_) <;> try (exfalso; omega))|((with_reducible refine br_n (fun h=>?_) fun h=>?_) <;> try (exfalso; omega))|with_reducible refine stop ?_)
    all_goals refine Stop.mk ?_
  all_goals try
    refine call_fn [0] (number_fn blocks 11 hc hb) rfl ⟨rfl, trivial⟩ (by decide) ?_
    rintro sv H' G' ⟨rfl, rfl, rfl⟩ -
    refine ⟨Nat.le_of_ble_eq_true rfl, ?_⟩
    repeat' ((fail_if_success with_reducible refine Stop.mk ?_);(conv=>whnf);first|((with_reducible refine br_e (fun h=>?_) fun h=>?_) <;> try (exfalso; omega))|with_reducible refine stop ?_)
    all_goals refine Stop.mk ?_
  all_goals try
    refine call_fn [0] (number_fn blocks 11 hc1 hb) rfl ⟨rfl, trivial⟩ (by decide) ?_
    rintro sv H' G' ⟨rfl, rfl, rfl⟩ -
    refine ⟨Nat.le_of_ble_eq_true rfl, ?_⟩
    have hc2 := hc1.next (sNum_suf blocks 11 _)
    repeat' ((fail_if_success with_reducible refine Stop.mk ?_);(conv=>whnf);first|((with_reducible refine br_e (fun h=>?_) fun h=>?_) <;> try (exfalso; omega))|with_reducible refine stop ?_)
    all_goals refine Stop.mk ?_
  all_goals try
    refine call_fn [0] (number_fn blocks 11 hc2 hb) rfl ⟨rfl, trivial⟩ (by decide) ?_
    rintro sv H' G' ⟨rfl, rfl, rfl⟩ -
    refine ⟨Nat.le_of_ble_eq_true rfl, ?_⟩
    repeat' ((fail_if_success with_reducible refine Stop.mk ?_);(conv=>whnf);with_reducible refine stop ?_)
    all_goals refine Stop.mk ?_
  all_goals
    first
      | rw [show decide (k ≠ 1) = false from decide_eq_false (by omega), show decide (k ≠ 3) = true from decide_eq_true (by omega), show decide (k = 2) = false from decide_eq_false (by omega)] at hfl
      | rw [show decide (k ≠ 1) = true from decide_eq_true (by omega), show decide (k ≠ 3) = false from decide_eq_false (by omega), show decide (k = 2) = false from decide_eq_false (by omega)] at hfl
      | rw [show decide (k ≠ 1) = true from decide_eq_true (by omega), show decide (k ≠ 3) = true from decide_eq_true (by omega), show decide (k = 2) = true from decide_eq_true (by omega)] at hfl
      | rw [show decide (k ≠ 1) = true from decide_eq_true (by omega), show decide (k ≠ 3) = true from decide_eq_true (by omega), show decide (k = 2) = false from decide_eq_false (by omega)] at hfl
    simp only [optN] at hfl
    replace hfin := hfin _ _ _ _ hfl
    refine call_fn [0] (perr_fn (p := (sTrm regs blocks p).2)) rfl ⟨by rw [hfin]; rfl, trivial⟩ (by decide) ?_
    rintro sv H' G' ⟨rfl, rfl, rfl⟩ -
    refine ⟨Nat.le_of_ble_eq_true rfl, ?_⟩
    repeat' ((fail_if_success with_reducible refine Stop.mk ?_);(conv=>whnf);with_reducible first|refine br_n (fun h=>?_) fun h=>?_|refine stop ?_)
    all_goals refine Stop.mk ?_
  all_goals
    refine fin_id hE 1 rfl rfl rfl rfl ⟨?_, ?_, rfl⟩
    · rw [hfin] at h ⊢
      dsimp only at h ⊢
      first
        | (rw [if_pos h]; rfl)
        | (rw [if_neg h]; rfl)
    · rw [hfin]; rfl
end Go.Proofs.YtchebkpcgglllaaGreat.Cu

namespace Go.Proofs.YtchebkpcgglllaaGreat.Cu
open Go Go.SX Go.Proofs.YtchebkpcgglllaaGreat.VT
set_option maxRecDepth 100000
set_option linter.unusedVariables false
set_option linter.unusedSimpArgs false

theorem r17put_fn (G : Gh) (l : List Int) (n : Int) (hl : l.length ≤ 1000000) :
    Ct Tryz.prog 139 [.s 0, .v (.int .i64 n)] [rowB l] G fun sv H' G' => sv = .s 0 ∧ H' = [rowB (l ++ pU n)] ∧ G' = G := by
  have hp := pU_len n
  have hn := pU_nat n
  have hrp := rput_fn G (IntKind.u64.wrap n).toNat (by omega)
  rw [Int.toNat_of_nonneg hn.1] at hrp
  refine fn_of follows [] Tryz.func139 rfl rfl fun E hE => ?_
  repeat' ((fail_if_success with_reducible refine Stop.mk ?_);(conv=>whnf);with_reducible refine stop ?_)
  all_goals refine Stop.mk ?_
  refine call_fn [] (hrp) rfl trivial (by decide) ?_
  rintro sv H' G' ⟨rfl, rfl, rfl⟩ -
  refine ⟨Nat.le_of_ble_eq_true rfl, ?_⟩
  repeat' ((fail_if_success with_reducible refine Stop.mk ?_);(conv=>whnf);with_reducible refine stop ?_)
  all_goals refine Stop.mk ?_
  refine ⟨byts_one _, ⟨by show (l.length + (pU n).length) * 1 ≤ _; omega, ?_⟩⟩
  repeat' ((fail_if_success with_reducible refine Stop.mk ?_);(conv=>whnf);with_reducible refine stop ?_)
  all_goals refine Stop.mk ?_
  refine fin_id hE 1 rfl rfl rfl rfl ⟨rfl, ?_, rfl⟩
  rw [← rowB_app']; rfl
theorem rzig_fn (G : Gh) (n : Int) (h0 : -9223372036854775808 ≤ n) (h1 : n ≤ 9223372036854775807) :
    Ct Tryz.prog 143 [.v (.int .i64 n)] [] G fun sv H' G' => sv = .v (.int .u64 (zig n)) ∧ H' = [] ∧ G' = G := by
  refine fn_of follows [] Tryz.func143 rfl rfl fun E hE => ?_
  repeat' ((fail_if_success with_reducible refine Stop.mk ?_);(conv=>whnf);with_reducible first|refine br_d (fun h=>?_) fun h=>?_|refine stop ?_)
  all_goals refine Stop.mk ?_
  · refine fin_all ⟨svi ?_, rfl, rfl⟩
    unfold zig
    rw [if_pos (by omega), u64_in (n := n) (by omega) (by omega), u64_in (by omega) (by omega)]
  · refine fin_all ⟨svi ?_, rfl, rfl⟩
    unfold zig
    rw [if_neg (by omega)]
    simp only [IntKind.wrap_u64, IntKind.wrap_i64]
    omega
set_option maxHeartbeats 8000000 in
theorem r17Put_fn (G : Gh) (i : Mac) (hi : i.ok) :
    Ct Tryz.prog 101 [i.sv] [] G fun sv H' G' => sv = .s 0 ∧ H' = [rowB (putMacB i)] ∧ G' = G := by
  obtain ⟨hi1, hi2, hi3, hi4, hi5, hi6, hi7⟩ := hi
  have hd := pU_len i.d
  have ha := pU_len i.a
  have hb := pU_len i.b
  have hdst := pU_len i.dst
  have hsh := shape_of i.op
  refine fn_of follows [(11, (.cons 0 [] (.cons 1 [] (.cons 2 [] (.cons 4 [] (.cons 5 [] (.cons 3 [2] (.cons 6 [2, 5] (.cons 7 [] .nil)))))))))] Tryz.func101 rfl rfl fun E hE => ?_
  repeat' ((fail_if_success with_reducible refine Stop.mk ?_);(conv=>whnf);with_reducible refine stop ?_)
  all_goals refine Stop.mk ?_
  rcases hsh with ⟨e1, e2, e3, e4⟩ | ⟨e1, e2, e3, e4⟩ | ⟨e1, e2, e3, e4⟩ | ⟨e1, e2, e3, e4⟩ | ⟨e1, e2, e3, e4⟩
  all_goals
    refine call_fn [] (usesD_fn _ i.op) rfl trivial (by decide) ?_
    rintro sv H' G' ⟨rfl, rfl, rfl⟩ -
    refine ⟨Nat.le_of_ble_eq_true rfl, ?_⟩
    rw [e1]
    repeat' ((fail_if_success with_reducible refine Stop.mk ?_);(conv=>whnf);with_reducible first|refine br_t ?_|refine br_f ?_|refine stop ?_)
    all_goals refine Stop.mk ?_
  all_goals try
    refine call_fn [1] (r17put_fn _ [IntKind.u8.wrap i.op] i.d (by (try simp only [List.length_append, List.length_cons, List.length_nil]); omega)) rfl ⟨rfl, trivial⟩ (by decide) ?_
    rintro sv H' G' ⟨rfl, rfl, rfl⟩ -
    refine ⟨Nat.le_of_ble_eq_true rfl, ?_⟩
    repeat' ((fail_if_success with_reducible refine Stop.mk ?_);(conv=>whnf);with_reducible refine stop ?_)
    all_goals refine Stop.mk ?_
  all_goals
    refine call_fn [] (usesA_fn _ i.op) rfl trivial (by decide) ?_
    rintro sv H' G' ⟨rfl, rfl, rfl⟩ -
    refine ⟨Nat.le_of_ble_eq_true rfl, ?_⟩
    rw [e2]
    repeat' ((fail_if_success with_reducible refine Stop.mk ?_);(conv=>whnf);with_reducible first|refine br_t ?_|refine br_f ?_|refine stop ?_)
    all_goals refine Stop.mk ?_
  all_goals try
    refine call_fn [1] (r17put_fn _ [IntKind.u8.wrap i.op] i.a (by (try simp only [List.length_append, List.length_cons, List.length_nil]); omega)) rfl ⟨rfl, trivial⟩ (by decide) ?_
    rintro sv H' G' ⟨rfl, rfl, rfl⟩ -
    refine ⟨Nat.le_of_ble_eq_true rfl, ?_⟩
    repeat' ((fail_if_success with_reducible refine Stop.mk ?_);(conv=>whnf);with_reducible refine stop ?_)
    all_goals refine Stop.mk ?_
  all_goals try
    refine call_fn [1] (r17put_fn _ _ i.a (by (try simp only [List.length_append, List.length_cons, List.length_nil]); omega)) rfl ⟨rfl, trivial⟩ (by decide) ?_
    rintro sv H' G' ⟨rfl, rfl, rfl⟩ -
    refine ⟨Nat.le_of_ble_eq_true rfl, ?_⟩
    repeat' ((fail_if_success with_reducible refine Stop.mk ?_);(conv=>whnf);with_reducible refine stop ?_)
    all_goals refine Stop.mk ?_
  all_goals
    refine call_fn [] (usesB_fn _ i.op) rfl trivial (by decide) ?_
    rintro sv H' G' ⟨rfl, rfl, rfl⟩ -
    refine ⟨Nat.le_of_ble_eq_true rfl, ?_⟩
    rw [e3]
    repeat' ((fail_if_success with_reducible refine Stop.mk ?_);(conv=>whnf);with_reducible first|refine br_t ?_|refine br_f ?_|refine br_e (fun h=>?_) fun h=>?_|refine drw (by kernel_rfl) ?_|refine stop ?_)
    all_goals refine Stop.mk ?_
  all_goals try
    refine call_fn [1] (r17put_fn _ _ i.b (by (try simp only [List.length_append, List.length_cons, List.length_nil]); omega)) rfl ⟨rfl, trivial⟩ (by decide) ?_
    rintro sv H' G' ⟨rfl, rfl, rfl⟩ -
    refine ⟨Nat.le_of_ble_eq_true rfl, ?_⟩
    repeat' ((fail_if_success with_reducible refine Stop.mk ?_);(conv=>whnf);with_reducible first|refine br_e (fun h=>?_) fun h=>?_|refine drw (by kernel_rfl) ?_|refine stop ?_)
    all_goals refine Stop.mk ?_
  all_goals try
    refine call_fn [1] (r17put_fn _ [IntKind.u8.wrap i.op] i.dst (by (try simp only [List.length_append, List.length_cons, List.length_nil]); omega)) rfl ⟨rfl, trivial⟩ (by decide) ?_
    rintro sv H' G' ⟨rfl, rfl, rfl⟩ -
    refine ⟨Nat.le_of_ble_eq_true rfl, ?_⟩
    repeat' ((fail_if_success with_reducible refine Stop.mk ?_);(conv=>whnf);with_reducible refine stop ?_)
    all_goals refine Stop.mk ?_
  all_goals try
    refine call_fn [1] (r17put_fn _ _ i.dst (by (try simp only [List.length_append, List.length_cons, List.length_nil]); omega)) rfl ⟨rfl, trivial⟩ (by decide) ?_
    rintro sv H' G' ⟨rfl, rfl, rfl⟩ -
    refine ⟨Nat.le_of_ble_eq_true rfl, ?_⟩
    repeat' ((fail_if_success with_reducible refine Stop.mk ?_);(conv=>whnf);with_reducible refine stop ?_)
    all_goals refine Stop.mk ?_
  all_goals try
    refine call_fn [1] (r17put_fn _ _ i.src (by (try simp only [List.length_append, List.length_cons, List.length_nil]); omega)) rfl ⟨rfl, trivial⟩ (by decide) ?_
    rintro sv H' G' ⟨rfl, rfl, rfl⟩ -
    refine ⟨Nat.le_of_ble_eq_true rfl, ?_⟩
    repeat' ((fail_if_success with_reducible refine Stop.mk ?_);(conv=>whnf);with_reducible refine stop ?_)
    all_goals refine Stop.mk ?_
  all_goals try
    refine call_fn [] (rzig_fn _ i.imm hi5.1 hi5.2) rfl trivial (by decide) ?_
    rintro sv H' G' ⟨rfl, rfl, rfl⟩ -
    refine ⟨Nat.le_of_ble_eq_true rfl, ?_⟩
    have hz := zig_range i.imm hi5.1 hi5.2
    have hrp := rput_fn G' (zig i.imm).toNat (by omega)
    rw [Int.toNat_of_nonneg hz.1] at hrp
    have hpl := putB_len (zig i.imm).toNat
    repeat' ((fail_if_success with_reducible refine Stop.mk ?_);(conv=>whnf);with_reducible refine stop ?_)
    all_goals refine Stop.mk ?_
    refine call_fn [] hrp rfl trivial (by decide) ?_
    rintro sv H' G' ⟨rfl, rfl, rfl⟩ -
    refine ⟨Nat.le_of_ble_eq_true rfl, ?_⟩
    repeat' ((fail_if_success with_reducible refine Stop.mk ?_);(conv=>whnf);with_reducible refine stop ?_)
    all_goals refine Stop.mk ?_
    refine ⟨byts_one _, ⟨by show (([IntKind.u8.wrap i.op] ++ pU i.d).length + (putB (zig i.imm).toNat).length) * 1 ≤ _; simp only [List.length_append, List.length_cons, List.length_nil]; omega, ?_⟩⟩
    repeat' ((fail_if_success with_reducible refine Stop.mk ?_);(conv=>whnf);first|((with_reducible refine br_e (fun h=>?_) fun h=>?_) <;> try (exfalso; omega))|with_reducible refine stop ?_)
    all_goals refine Stop.mk ?_
  all_goals try (exfalso; have h1 : i.op = 1 := by assumption
                 rw [h1] at e4; exact absurd e4 (by decide))
  all_goals try (exfalso; have h1 : i.op ≠ 1 := by assumption
                 exact h1 (of_decide_eq_true e4))
  all_goals
    first
      | refine fin_mk hE [1] (.s 0) [rowB (putMacB i)] rfl ⟨congrArg some (show rowB _ = rowB _ from congrArg rowB ?_), trivial⟩ rfl ⟨rfl, rfl, rfl⟩
      | refine fin_mk hE [1] (.s 0) [rowB (putMacB i)] rfl ⟨congrArg some ((rowB_app' _ _).trans (congrArg rowB ?_)), trivial⟩ rfl ⟨rfl, rfl, rfl⟩
      | refine fin_mk hE [1] (.s 0) [rowB (putMacB i)] rfl ⟨congrArg some (show rowB [IntKind.u8.wrap i.op] = rowB _ from congrArg rowB ?_), trivial⟩ rfl ⟨rfl, rfl, rfl⟩
    simp only [putMacB, fieldsB, e1, e2, e3, e4, if_true, Bool.false_eq_true, if_false]
    first
      | (rw [if_pos (by assumption)]; simp)
      | (rw [if_neg (by first | assumption | omega)]; simp)
theorem r17PutInstr_fn (G : Gh) (i : Ins) (hi : i.ok) (h18 : i.op ≠ 18) :
    Ct Tryz.prog 99 [i.sv] [] G fun sv H' G' => sv = .s 0 ∧ H' = [rowB (putInsB i)] ∧ G' = G := by
  obtain ⟨hi1, hi2, hi3, hi4, hi5⟩ := hi
  refine fn_of follows [] Tryz.func99 rfl rfl fun E hE => ?_
  repeat' ((fail_if_success with_reducible refine Stop.mk ?_);(conv=>whnf);with_reducible refine stop ?_)
  all_goals refine Stop.mk ?_
  refine call_fn [] (r17Put_fn _ ⟨i.op, i.d, i.a, i.b, i.imm, 0, 0⟩ ⟨hi1, hi2, hi3, hi4, hi5, in64_0, in64_0⟩) rfl trivial (by decide) ?_
  rintro sv H' G' ⟨rfl, rfl, rfl⟩ -
  refine ⟨Nat.le_of_ble_eq_true rfl, ?_⟩
  repeat' ((fail_if_success with_reducible refine Stop.mk ?_);(conv=>whnf);with_reducible refine stop ?_)
  all_goals refine Stop.mk ?_
  refine fin_mk hE [1] (.s 0) [rowB (putInsB i)] rfl ⟨congrArg some (show rowB _ = rowB _ from congrArg rowB ?_), trivial⟩ rfl ⟨rfl, rfl, rfl⟩
  simp [putMacB, putInsB, h18]
set_option maxHeartbeats 8000000 in
theorem r17PutTerm_fn (G : Gh) (t : Trm) :
    Ct Tryz.prog 100 [t.sv] [] G fun sv H' G' => sv = .s 0 ∧ H' = [rowB (putTrmB t)] ∧ G' = G := by
  have ha := pU_len t.a
  have hto := pU_len t.to_
  refine fn_of follows [] Tryz.func100 rfl rfl fun E hE => ?_
  repeat' ((fail_if_success with_reducible refine Stop.mk ?_);(conv=>whnf);with_reducible first|refine br_e (fun h=>?_) fun h=>?_|refine br_n (fun h=>?_) fun h=>?_|refine stop ?_)
  all_goals refine Stop.mk ?_
  all_goals try
    refine call_fn [1] (r17put_fn _ [IntKind.u8.wrap t.kind] t.a (by (try simp only [List.length_append, List.length_cons, List.length_nil]); omega)) rfl ⟨rfl, trivial⟩ (by decide) ?_
    rintro sv H' G' ⟨rfl, rfl, rfl⟩ -
    refine ⟨Nat.le_of_ble_eq_true rfl, ?_⟩
    repeat' ((fail_if_success with_reducible refine Stop.mk ?_);(conv=>whnf);first|((with_reducible refine br_e (fun h=>?_) fun h=>?_) <;> try (exfalso; omega))|((with_reducible refine br_n (fun h=>?_) fun h=>?_) <;> try (exfalso; omega))|with_reducible refine stop ?_)
    all_goals refine Stop.mk ?_
  all_goals try
    refine call_fn [1] (r17put_fn _ [IntKind.u8.wrap t.kind] t.to_ (by (try simp only [List.length_append, List.length_cons, List.length_nil]); omega)) rfl ⟨rfl, trivial⟩ (by decide) ?_
    rintro sv H' G' ⟨rfl, rfl, rfl⟩ -
    refine ⟨Nat.le_of_ble_eq_true rfl, ?_⟩
    repeat' ((fail_if_success with_reducible refine Stop.mk ?_);(conv=>whnf);first|((with_reducible refine br_e (fun h=>?_) fun h=>?_) <;> try (exfalso; omega))|with_reducible refine stop ?_)
    all_goals refine Stop.mk ?_
  all_goals try
    refine call_fn [1] (r17put_fn _ _ t.to_ (by (try simp only [List.length_append, List.length_cons, List.length_nil]); omega)) rfl ⟨rfl, trivial⟩ (by decide) ?_
    rintro sv H' G' ⟨rfl, rfl, rfl⟩ -
    refine ⟨Nat.le_of_ble_eq_true rfl, ?_⟩
    repeat' ((fail_if_success with_reducible refine Stop.mk ?_);(conv=>whnf);first|((with_reducible refine br_e (fun h=>?_) fun h=>?_) <;> try (exfalso; omega))|with_reducible refine stop ?_)
    all_goals refine Stop.mk ?_
  all_goals try
    refine call_fn [1] (r17put_fn _ _ t.els (by (try simp only [List.length_append, List.length_cons, List.length_nil]); omega)) rfl ⟨rfl, trivial⟩ (by decide) ?_
    rintro sv H' G' ⟨rfl, rfl, rfl⟩ -
    refine ⟨Nat.le_of_ble_eq_true rfl, ?_⟩
    repeat' ((fail_if_success with_reducible refine Stop.mk ?_);(conv=>whnf);with_reducible refine stop ?_)
    all_goals refine Stop.mk ?_
  all_goals try (exfalso; omega)
  all_goals
    first
      | refine fin_mk hE [1] (.s 0) [rowB (putTrmB t)] rfl ⟨congrArg some (show rowB _ = rowB _ from congrArg rowB ?_), trivial⟩ rfl ⟨rfl, rfl, rfl⟩
    first
      | (have h3 : t.kind = 1 := by omega
         simp [putTrmB, h3])
      | (have h3 : t.kind = 2 := by omega
         simp [putTrmB, h3])
      | (have h3 : t.kind = 3 := by omega
         simp [putTrmB, h3])
      | simp [putTrmB, *]
end Go.Proofs.YtchebkpcgglllaaGreat.Cu

namespace Go.Proofs.YtchebkpcgglllaaGreat.Cu
open Go Go.SX Go.Proofs.YtchebkpcgglllaaGreat.VT
set_option maxRecDepth 100000
set_option linter.unusedVariables false
set_option linter.unusedSimpArgs false

/-- The reference's first byte. -/
def goodR (most not_ : Int) (op : Int) : Bool := decide (1 ≤ op ∧ op ≤ most ∧ op ≠ not_)
set_option maxHeartbeats 8000000 in
theorem rfirst_fn {G : Gh} {A : Option Addr} {c : Nat} {p r : Ps} (most not_ why : Int) (h : RIn G A c p r) (hw0 : why ≠ 0) :
    Ct Tryz.prog 127 [inS A c r, .v (.int .i64 most), .v (.int .i64 not_), .v (.int .i64 why)] [] G fun sv H' G' =>
      ∃ v, RPost G (.v (.int .i64 v)) (sFirst (goodR most not_) why p).2 sv H' G' ∧ ((sFirst (goodR most not_) why p).2.2 = 0 → v = (sFirst (goodR most not_) why p).1) ∧ ((sFirst (goodR most not_) why p).2.2 ≠ 0 → v = 0) := by
  obtain ⟨hs, hbb, hl, he, hr⟩ := h
  have hcap := hs.cap
  have htop := hs.top
  refine fn_of follows [(2, (.cons 0 [] (.cons 1 [] (.cons 2 [0] .nil)))), (8, (.cons 0 [] (.cons 1 [] (.cons 2 [] (.cons 3 [] (.cons 4 [] (.cons 5 [] (.cons 6 [2] .nil))))))))] Tryz.func127 rfl rfl fun E hE => ?_
  repeat' ((fail_if_success with_reducible refine Stop.mk ?_);(conv=>whnf);with_reducible first|refine br_e (fun h=>?_) fun h=>?_|refine br_n (fun h=>?_) fun h=>?_|refine drw (by kernel_rfl) ?_|refine stop ?_)
  all_goals refine Stop.mk ?_
  · have h0 : r.2 = 0 := by assumption
    have hp0 : p.2 = 0 := by rw [← he]; exact h0
    have hl0 : r.1 = [] := List.eq_nil_of_length_eq_zero (by omega)
    have hsb : sByte p = (0, ([], 1)) := by unfold sByte; rw [if_neg (by simpa using hp0), ← hr hp0, hl0]
    have hsf : (sFirst (goodR most not_) why p).2.2 = 1 := by
      unfold sFirst; rw [hsb]; simp only; split
      · rfl
      · unfold sFail failE; simp
    refine fin_id hE 0 rfl rfl rfl rfl ⟨0, ⟨none, 0, ([], 1), rfl, RIn.err hsf (by decide), rfl, rfl⟩, fun h1 => ?_, fun _ => rfl⟩
    rw [hsf] at h1; simp at h1
  · have h0 : r.2 = 0 := by assumption
    have hp0 : p.2 = 0 := by rw [← he]; exact h0
    obtain ⟨l, e⟩ := p
    obtain ⟨l2, e2⟩ := r
    dsimp only at *
    subst he
    subst h0
    obtain rfl := hr rfl
    cases l2 with
    | nil => exact absurd rfl (by assumption)
    | cons x l =>
      have hxr := hbb x (by simp)
      have hsb : sByte (x :: l, 0) = (x, (l, 0)) := by unfold sByte; simp
      refine ⟨⟨by omega, by simp only [List.length_cons]; omega⟩, _, hs, fun ad had hadr => ?_⟩
      repeat' ((fail_if_success with_reducible refine Stop.mk ?_);(conv=>whnf);with_reducible refine stop ?_)
      all_goals refine Stop.mk ?_
      refine ⟨_, el1 had (by simp), ?_⟩
      simp only [Int.toNat_zero, List.getD_cons_zero]
      have hwx : IntKind.i64.wrap x = x := i64_in (by omega) (by omega)
      have hbad : ¬ (1 ≤ x ∧ x ≤ most ∧ x ≠ not_) → (sFirst (goodR most not_) why (x :: l, 0)).2 = (l, why) := by
        intro hn
        unfold sFirst goodR; rw [hsb]; simp only [decide_eq_true_iff]; rw [if_neg hn]; unfold sFail failE; simp
      have hgood : (1 ≤ x ∧ x ≤ most ∧ x ≠ not_) → sFirst (goodR most not_) why (x :: l, 0) = (x, (l, 0)) := by
        intro hn
        unfold sFirst goodR; rw [hsb]; simp only [decide_eq_true_iff]; rw [if_pos hn]
      repeat' ((fail_if_success with_reducible refine Stop.mk ?_);(conv=>whnf);first|with_reducible refine br_t ?_|((with_reducible refine br_d (fun h=>?_) fun h=>?_) <;> try (exfalso; omega))|((with_reducible refine br_e (fun h=>?_) fun h=>?_) <;> try (exfalso; omega))|with_reducible refine drw (by kernel_rfl) ?_|with_reducible refine stop ?_)
      all_goals refine Stop.mk ?_
      all_goals try
        (have hbad := hbad (by omega)
         refine fin_id hE 0 rfl rfl rfl rfl ⟨0, ⟨none, 0, ([], why), rfl, RIn.err (by rw [hbad]) hw0, rfl, rfl⟩, fun h1 => ?_, fun _ => rfl⟩
         rw [hbad] at h1; exact absurd h1 hw0)
      have hgood := hgood (by omega)
      refine ⟨⟨by omega, by simp only [List.length_cons]; omega⟩, fun A' hA' => ?_⟩
      have hs' := slB_drop hs 1 (by simp) hA'
      rw [show (x :: l).length - Int.toNat 1 = l.length by simp, hwx]
      repeat' ((fail_if_success with_reducible refine Stop.mk ?_);(conv=>whnf);with_reducible refine stop ?_)
      all_goals refine Stop.mk ?_
      refine fin_id hE 0 rfl rfl rfl rfl ⟨x, ⟨A', c - 1, (l, 0), rfl, ?_, rfl, rfl⟩, fun h1 => ?_, fun h1 => ?_⟩
      · rw [hgood]
        exact ⟨hs', fun y hy => hbb y (by simp [hy]), by simp only [List.length_cons] at hl ⊢; omega, rfl, fun _ => rfl⟩
      · rw [hgood]
      · rw [hgood] at h1; exact absurd rfl h1
  · have h0 : r.2 ≠ 0 := by assumption
    have hp0 : p.2 ≠ 0 := by rw [← he]; exact h0
    have hsf : (sFirst (goodR most not_) why p).2 = p := by
      unfold sFirst; rw [sByte_err hp0]; simp only; split
      · rfl
      · unfold sFail failE; rw [if_neg hp0]
    refine fin_id hE 0 rfl rfl rfl rfl ⟨0, ⟨A, c, r, rfl, ?_, rfl, rfl⟩, fun h1 => ?_, fun _ => rfl⟩
    · rw [hsf]; exact ⟨hs, hbb, hl, he, hr⟩
    · rw [hsf] at h1; exact absurd h1 hp0
theorem sFail_of {why : Int} {p : Ps} (h : p.2 = 0) : sFail why p = (p.1, why) := by unfold sFail failE; rw [if_pos h]
theorem sFail_erI {why : Int} {p : Ps} (h : p.2 ≠ 0) : sFail why p = p := by unfold sFail failE; rw [if_neg h]
/-- A place is a number that is in range. -/
theorem sPlace_is {regs slots : Int} {p : Ps} (hb : isB p.1) (h1 : regs ≤ 1099511627776) (h2 : slots ≤ 1099511627776) : (sPlace regs slots p).2 = (if (sNum 4611686018427387904 10 p).2.2 = 0 ∧ ¬ inRange (sNum 4611686018427387904 10 p).1 regs slots then sFail 10 (sNum 4611686018427387904 10 p).2 else (sNum 4611686018427387904 10 p).2) ∧
    ((sNum 4611686018427387904 10 p).2.2 = 0 → (sPlace regs slots p).1 = (sNum 4611686018427387904 10 p).1) := by
  have hr := sUint_range (most := maxU) hb
  unfold sPlace sNum
  simp only
  generalize sUint maxU p = u at *
  by_cases h3 : 4611686018427387904 ≤ u.1
  · rw [if_pos h3]
    by_cases h0 : u.2.2 = 0
    · have hin : 4611686018427387904 < u.1 ∨ ¬ inRange (IntKind.i64.wrap u.1) regs slots := by
        by_cases h4 : 4611686018427387904 < u.1
        · exact .inl h4
        · right
          have : u.1 = 4611686018427387904 := by omega
          rw [this]
          unfold inRange
          rw [i64_in (by omega) (by omega)]
          omega
      rw [if_pos ⟨h0, hin⟩, sFail_of h0]
      simp
    · rw [if_neg (fun h => h0 h.1), sFail_erI h0]
      simp [h0]
  · rw [if_neg h3]
    have hw : IntKind.i64.wrap u.1 = u.1 := i64_in (by omega) (by omega)
    rw [hw]
    refine ⟨?_, fun _ => rfl⟩
    by_cases h0 : u.2.2 = 0
    · by_cases h4 : inRange u.1 regs slots
      · rw [if_neg (by rintro ⟨_, h5 | h5⟩; omega; exact h5 h4), if_neg (by rintro ⟨_, h5⟩; exact h5 h4)]
      · rw [if_pos ⟨h0, .inr h4⟩, if_pos ⟨h0, h4⟩]
    · rw [if_neg (fun h => h0 h.1), if_neg (fun h => h0 h.1)]
theorem sNum_range {bound why : Int} {p : Ps} (hb : isB p.1) (h0 : 0 ≤ bound) : 0 ≤ (sNum bound why p).1 ∧ ((sNum bound why p).1 < bound ∨ (sNum bound why p).1 = 0) := by
  have hr := sUint_range (most := maxU) hb
  unfold sNum
  split
  · simp
  · omega
set_option maxHeartbeats 8000000 in
theorem rlocation_fn {G : Gh} {A : Option Addr} {c : Nat} {p r : Ps} (regs slots : Int) (h : RIn G A c p r) (hpb : isB p.1) (h1 : regs ≤ 1099511627776) (h2 : slots ≤ 1099511627776) :
    Ct Tryz.prog 149 [inS A c r, .v (.int .i64 regs), .v (.int .i64 slots)] [] G fun sv H' G' =>
      ∃ v, RPost G (.v (.int .i64 v)) (sPlace regs slots p).2 sv H' G' ∧ ((sPlace regs slots p).2.2 = 0 → v = (sPlace regs slots p).1) := by
  obtain ⟨hs1, hs2⟩ := sPlace_is (p := p) hpb h1 h2
  have hrg := sNum_range (bound := 4611686018427387904) (why := 10) hpb (by omega)
  refine fn_of follows [(4, (.cons 0 [] (.cons 1 [] (.cons 2 [] (.cons 3 [1] .nil)))))] Tryz.func149 rfl rfl fun E hE => ?_
  repeat' ((fail_if_success with_reducible refine Stop.mk ?_);(conv=>whnf);with_reducible refine stop ?_)
  all_goals refine Stop.mk ?_
  refine call_fn [] (rNumber_fn 4611686018427387904 10 h (by omega) (by omega)) rfl trivial (by decide) ?_
  rintro sv H' G' ⟨A1, c1, r1, rfl, h1, rfl, rfl⟩ -
  refine ⟨Nat.zero_le _, ?_⟩
  generalize sNum 4611686018427387904 10 p = n at *
  repeat' ((fail_if_success with_reducible refine Stop.mk ?_);(conv=>whnf);with_reducible first|refine br_f ?_|refine br_e (fun h=>?_) fun h=>?_|refine drw (by kernel_rfl) ?_|refine stop ?_)
  all_goals refine Stop.mk ?_
  all_goals try
    refine call_fn [] (rinRange_fn _ n.1 regs slots (by unfold in64; omega)) rfl trivial (by decide) ?_
    rintro sv H' G' ⟨rfl, rfl, rfl⟩ -
    refine ⟨Nat.le_of_ble_eq_true rfl, ?_⟩
    repeat' ((fail_if_success with_reducible refine Stop.mk ?_);(conv=>whnf);with_reducible first|refine br_not ?_|refine br_d (fun h=>?_) fun h=>?_|refine drw (by kernel_rfl) ?_|refine stop ?_)
    all_goals refine Stop.mk ?_
  · have h0 : n.2.2 = 0 := by rw [← h1.he]; assumption
    rw [if_neg (by rintro ⟨_, h5⟩; exact h5 (by assumption))] at hs1
    refine fin_id hE 0 rfl rfl rfl rfl ⟨n.1, ⟨A1, c1, r1, rfl, hs1 ▸ h1, rfl, rfl⟩, fun _ => (hs2 h0).symm⟩
  · have h0 : n.2.2 = 0 := by rw [← h1.he]; assumption
    rw [if_pos ⟨h0, by assumption⟩, sFail_of h0] at hs1
    refine fin_id hE 0 rfl rfl rfl rfl ⟨0, ⟨none, 0, ([], 10), rfl, RIn.err (by rw [hs1]) (by decide), rfl, rfl⟩, fun h5 => ?_⟩
    rw [hs1] at h5; simp at h5
  · have h0 : n.2.2 ≠ 0 := by rw [← h1.he]; assumption
    rw [if_neg (fun h5 => h0 h5.1)] at hs1
    refine fin_id hE 0 rfl rfl rfl rfl ⟨n.1, ⟨A1, c1, r1, rfl, hs1 ▸ h1, rfl, rfl⟩, fun h5 => ?_⟩
    rw [hs1] at h5; exact absurd h5 h0
/-! ### read -/
/-- What is read behind the opcode. -/
def sRead (op regs slots : Int) (p : Ps) : Mac × Ps :=
  if op = 18 then
    let m := sMove regs slots p
    (if m.2.2 = 0 then ⟨op, 0, 0, 0, 0, m.1.1, m.1.2⟩ else mac0, m.2)
  else
    let f := sFlds op regs p
    (if f.2.2 = 0 then ⟨op, f.1.1, f.1.2.1, f.1.2.2.1, f.1.2.2.2, 0, 0⟩ else mac0, f.2)
theorem sMac_is (regs slots : Int) (p : Ps) : sMac regs slots p = sRead (sFirst machOp 8 p).1 regs slots (sFirst machOp 8 p).2 := rfl
set_option maxHeartbeats 8000000 in
theorem rread_fn {G : Gh} {A : Option Addr} {c : Nat} {p r : Ps} (op regs slots : Int) (hI : RIn G A c p r) (hpb : isB p.1) (hr : 0 ≤ regs) (h1 : regs ≤ 1099511627776) (h2 : slots ≤ 1099511627776) :
    Ct Tryz.prog 128 [inS A c r, .v (.int .i64 op), .v (.int .i64 regs), .v (.int .i64 slots)] [] G (RPost G (sRead op regs slots p).1.sv (sRead op regs slots p).2) := by
  have hsh := shape_of op
  refine fn_of follows [(21, (.cons 0 [] (.cons 1 [] (.cons 2 [] (.cons 3 [1] .nil))))), (22, (.cons 0 [] (.cons 1 [] (.cons 2 [0] (.cons 3 [0, 1] .nil)))))] Tryz.func128 rfl rfl fun E hE => ?_
  have hfin : op ≠ 18 → ∀ d a b i r, sFlds op regs p = ((d, a, b, i), r) → sRead op regs slots p = (if r.2 = 0 then ⟨op, d, a, b, i, 0, 0⟩ else mac0, r) := by
    intro hne d a b i r hf
    simp only [sRead, hf, if_neg hne]
  have hfl : sFlds op regs p = sFlds op regs p := rfl
  conv at hfl => rhs; unfold sFlds
  have hfin2 : op = 18 → ∀ d s r, sMove regs slots p = ((d, s), r) → sRead op regs slots p = (if r.2 = 0 then ⟨op, 0, 0, 0, 0, d, s⟩ else mac0, r) := by
    intro he d s r hf
    simp only [sRead, hf, if_pos he]
  repeat' ((fail_if_success with_reducible refine Stop.mk ?_);(conv=>whnf);with_reducible refine stop ?_)
  all_goals refine Stop.mk ?_
  rcases hsh with ⟨e1, e2, e3, e4⟩ | ⟨e1, e2, e3, e4⟩ | ⟨e1, e2, e3, e4⟩ | ⟨e1, e2, e3, e4⟩ | ⟨e1, e2, e3, e4⟩
  all_goals
    rw [e1, e2, e3, e4] at hfl
    simp only [optN, optI] at hfl
    refine call_fn [] (usesD_fn _ op) rfl trivial (by decide) ?_
    rintro sv H' G' ⟨rfl, rfl, rfl⟩ -
    refine ⟨Nat.le_of_ble_eq_true rfl, ?_⟩
    rw [e1]
    repeat' ((fail_if_success with_reducible refine Stop.mk ?_);(conv=>whnf);with_reducible first|refine br_t ?_|refine br_f ?_|refine stop ?_)
    all_goals refine Stop.mk ?_
  all_goals try
    refine call_fn [] (rNumber_fn regs 9 hI ⟨hr, by omega⟩ (by decide)) rfl trivial (by decide) ?_
    rintro sv H' G' ⟨A1, c1, r1, rfl, hD, rfl, rfl⟩ -
    refine ⟨Nat.zero_le _, ?_⟩
    repeat' ((fail_if_success with_reducible refine Stop.mk ?_);(conv=>whnf);with_reducible refine stop ?_)
    all_goals refine Stop.mk ?_
  all_goals
    refine call_fn [] (usesA_fn _ op) rfl trivial (by decide) ?_
    rintro sv H' G' ⟨rfl, rfl, rfl⟩ -
    refine ⟨Nat.le_of_ble_eq_true rfl, ?_⟩
    rw [e2]
    repeat' ((fail_if_success with_reducible refine Stop.mk ?_);(conv=>whnf);with_reducible first|refine br_t ?_|refine br_f ?_|refine stop ?_)
    all_goals refine Stop.mk ?_
  all_goals try
    refine call_fn [] (rNumber_fn regs 9 hD ⟨hr, by omega⟩ (by decide)) rfl trivial (by decide) ?_
    rintro sv H' G' ⟨A2, c2, r2, rfl, hA, rfl, rfl⟩ -
    refine ⟨Nat.zero_le _, ?_⟩
    repeat' ((fail_if_success with_reducible refine Stop.mk ?_);(conv=>whnf);with_reducible refine stop ?_)
    all_goals refine Stop.mk ?_
  all_goals try
    refine call_fn [] (rNumber_fn regs 9 hI ⟨hr, by omega⟩ (by decide)) rfl trivial (by decide) ?_
    rintro sv H' G' ⟨A2, c2, r2, rfl, hA, rfl, rfl⟩ -
    refine ⟨Nat.zero_le _, ?_⟩
    repeat' ((fail_if_success with_reducible refine Stop.mk ?_);(conv=>whnf);with_reducible refine stop ?_)
    all_goals refine Stop.mk ?_
  all_goals
    refine call_fn [] (usesB_fn _ op) rfl trivial (by decide) ?_
    rintro sv H' G' ⟨rfl, rfl, rfl⟩ -
    refine ⟨Nat.le_of_ble_eq_true rfl, ?_⟩
    rw [e3]
    repeat' ((fail_if_success with_reducible refine Stop.mk ?_);(conv=>whnf);with_reducible first|refine br_t ?_|refine br_f ?_|refine br_e (fun h=>?_) fun h=>?_|refine br_n (fun h=>?_) fun h=>?_|refine drw (by kernel_rfl) ?_|refine stop ?_)
    all_goals refine Stop.mk ?_
  all_goals try
    refine call_fn [] (rNumber_fn regs 9 hA ⟨hr, by omega⟩ (by decide)) rfl trivial (by decide) ?_
    rintro sv H' G' ⟨A3, c3, r3, rfl, hB, rfl, rfl⟩ -
    refine ⟨Nat.zero_le _, ?_⟩
    repeat' ((fail_if_success with_reducible refine Stop.mk ?_);(conv=>whnf);with_reducible first|refine br_f ?_|refine br_e (fun h=>?_) fun h=>?_|refine br_n (fun h=>?_) fun h=>?_|refine drw (by kernel_rfl) ?_|refine stop ?_)
    all_goals refine Stop.mk ?_
  all_goals try (exfalso; have := of_decide_eq_true e4; omega)
  all_goals try (exfalso; have := of_decide_eq_false e4; omega)
  all_goals try (exfalso; have := of_decide_eq_true e1; unfold uD at this; omega)
  all_goals try (exfalso; have := of_decide_eq_true e2; unfold uA at this; omega)
  all_goals first | have hL := hB | have hL := hA | have hL := hD | have hL := hI
  all_goals try
    (have hn18 : op ≠ 18 := by first | assumption | omega | (have := of_decide_eq_true e4; omega)
     have hf := hfin hn18 _ _ _ _ _ hfl
     try rw [sInt_err (by rw [← hD.he]; assumption)] at hf
     first
       | (rw [if_pos (by rw [← hL.he]; assumption)] at hf
          refine fin_id hE 0 rfl rfl rfl rfl ⟨_, _, _, ?_, (by rw [hf]; exact hL), rfl, rfl⟩
          rw [hf]; rfl)
       | (rw [if_neg (by rw [← hL.he]; assumption)] at hf
          refine fin_id hE 0 rfl rfl rfl rfl ⟨_, _, _, ?_, (by rw [hf]; exact hL), rfl, rfl⟩
          rw [hf]; rfl))
  · have h0 : r1.2 = 0 := by assumption
    generalize sNum regs 9 p = n at *
    obtain ⟨n, q⟩ := n
    obtain ⟨hs, hbb, hl, he, hr1⟩ := hD
    have hcap := hs.cap
    have htop := hs.top
    obtain ⟨l, e⟩ := q
    obtain ⟨l2, e2⟩ := r1
    dsimp only at *
    subst he
    subst h0
    obtain rfl := hr1 rfl
    have hsu := sUint_max' hbb
    have hsi : sInt (l2, 0) = (unzig (sUint maxU (l2, 0)).1, (sUint maxU (l2, 0)).2) := rfl
    rw [hsu] at hsi
    refine call_fn [] (refGet_fn _ A1 c1 l2 hbb hs) rfl trivial (by decide) ?_
    rintro sv H' G' ⟨rfl, rfl, rfl⟩ -
    refine ⟨Nat.le_of_ble_eq_true rfl, ?_⟩
    unfold getR
    have hform := vdec_form hbb
    generalize vdec 0 l2 = d at *
    repeat' ((fail_if_success with_reducible refine Stop.mk ?_);(conv=>whnf);with_reducible first|refine br_n (fun h=>?_) fun h=>?_|refine stop ?_)
    all_goals refine Stop.mk ?_
    · rcases hform with ⟨e, he, hd⟩ | ⟨n', m, hd, h3, h4, h5, h6, h7⟩
      · have h1 : d.2.2 = 0 := by assumption
        rw [hd] at h1; simp only at h1; omega
      · subst hd
        dsimp only at *
        simp only [if_true, Int.toNat_natCast] at hsi
        rw [hsi] at hfl
        refine call_fn [] (refUnzigzag_fn _ (n' : Int) (by omega) (by omega)) rfl trivial (by decide) ?_
        rintro sv H' G' ⟨rfl, rfl, rfl⟩ -
        refine ⟨Nat.le_of_ble_eq_true rfl, ?_⟩
        repeat' ((fail_if_success with_reducible refine Stop.mk ?_);(conv=>whnf);with_reducible refine stop ?_)
        all_goals refine Stop.mk ?_
        refine ⟨⟨by omega, by omega⟩, fun A' hA' => ?_⟩
        rw [Int.toNat_natCast] at hA' ⊢
        have hs' := slB_drop hs m (by omega) hA'
        rw [show l2.length - m = (l2.drop m).length by simp]
        repeat' ((fail_if_success with_reducible refine Stop.mk ?_);(conv=>whnf);first|((with_reducible refine br_e (fun h=>?_) fun h=>?_) <;> try (exfalso; omega))|((with_reducible refine br_n (fun h=>?_) fun h=>?_) <;> try (exfalso; omega))|with_reducible refine drw (by kernel_rfl) ?_|with_reducible refine stop ?_)
        all_goals refine Stop.mk ?_
        have hf := hfin (by have := of_decide_eq_true e4; omega) _ _ _ _ _ hfl
        simp only [if_true] at hf
        refine fin_id hE 0 rfl rfl rfl rfl ⟨A', c1 - m, (l2.drop m, 0), ?_, ?_, rfl, rfl⟩
        · rw [hf]; rfl
        · rw [hf]
          exact ⟨hs', isB_drop hbb m, by simp only [List.length_drop]; omega, rfl, fun _ => rfl⟩
    · have h1 : d.2.2 ≠ 0 := by assumption
      simp only [h1, if_false] at hsi
      rw [hsi] at hfl
      have hf := hfin (by have := of_decide_eq_true e4; omega) _ _ _ _ _ hfl
      simp only [h1, if_false] at hf
      refine fin_id hE 0 rfl rfl rfl rfl ⟨none, 0, ([], d.2.2), ?_, ?_, rfl, rfl⟩
      · rw [hf]; rfl
      · rw [hf]
        exact RIn.err rfl h1
  · have h18 : op = 18 := by assumption
    have hpe : ∀ {q : Ps}, q.2 ≠ 0 → (sPlace regs slots q).2 = q := by
      intro q hq
      unfold sPlace; simp only; rw [sUint_err hq, if_neg (fun h => hq h.1)]
    have hmv : sMove regs slots p = sMove regs slots p := rfl
    conv at hmv => rhs; unfold sMove
    dsimp only at hmv
    refine call_fn [] (rlocation_fn regs slots hI hpb h1 h2) rfl trivial (by decide) ?_
    rintro sv H' G' ⟨v, ⟨A1, c1, r1, rfl, hD, rfl, rfl⟩, hv⟩ -
    refine ⟨Nat.zero_le _, ?_⟩
    have hpb1 : isB (sPlace regs slots p).2.1 := fun x hx => hpb x ((sPlace_suf _ _ _).subset hx)
    generalize sPlace regs slots p = d at *
    repeat' ((fail_if_success with_reducible refine Stop.mk ?_);(conv=>whnf);first|with_reducible refine br_f ?_|((with_reducible refine br_e (fun h=>?_) fun h=>?_) <;> try (exfalso; omega))|((with_reducible refine br_n (fun h=>?_) fun h=>?_) <;> try (exfalso; omega))|with_reducible refine drw (by kernel_rfl) ?_|with_reducible refine stop ?_)
    all_goals refine Stop.mk ?_
    · refine call_fn [] (rlocation_fn regs slots hD hpb1 h1 h2) rfl trivial (by decide) ?_
      rintro sv H' G' ⟨w, ⟨A2, c2, r2, rfl, hA, rfl, rfl⟩, hw⟩ -
      refine ⟨Nat.zero_le _, ?_⟩
      have hd0 : d.2.2 = 0 := by rw [← hD.he]; assumption
      have hv' := hv hd0
      subst hv'
      obtain ⟨s, hs⟩ : ∃ s, s = sPlace regs slots d.2 := ⟨_, rfl⟩
      rw [← hs] at hA hw hmv
      repeat' ((fail_if_success with_reducible refine Stop.mk ?_);(conv=>whnf);first|with_reducible refine br_f ?_|((with_reducible refine br_e (fun h=>?_) fun h=>?_) <;> try (exfalso; omega))|((with_reducible refine br_n (fun h=>?_) fun h=>?_) <;> try (exfalso; omega))|with_reducible refine drw (by kernel_rfl) ?_|with_reducible refine stop ?_)
      all_goals refine Stop.mk ?_
      all_goals
        have hmod : isSlot d.1 ↔ d.1.tmod 2 = 1 := Iff.rfl
        have hmod2 : isSlot s.1 ↔ s.1.tmod 2 = 1 := Iff.rfl
      all_goals try
        (have hs0 : s.2.2 = 0 := by rw [← hA.he]; assumption
         have hw' := hw hs0
         subst hw')
      all_goals try
        (have hs0 : s.2.2 = 0 := by rw [← hA.he]; assumption
         rw [if_neg (by rintro ⟨h5, h6⟩; rw [hmod] at h5; rw [hmod2] at h6; first | exact absurd h5 (by assumption) | exact absurd h6 (by assumption))] at hmv
         have hf := hfin2 h18 _ _ _ hmv
         rw [if_pos hs0] at hf
         refine fin_id hE 0 rfl rfl rfl rfl ⟨A2, c2, r2, ?_, (by rw [hf]; exact hA), rfl, rfl⟩
         rw [hf]; rfl)
      all_goals try
        (have hs0 : s.2.2 = 0 := by rw [← hA.he]; assumption
         have h10 : sMove regs slots p = ((d.1, s.1), sFail 10 s.2) := by rw [hmv, if_pos ⟨hmod.2 (by assumption), hmod2.2 (by assumption)⟩]
         have hf := hfin2 h18 _ _ _ h10
         rw [sFail_of hs0] at hf
         simp only [show ¬ (10 : Int) = 0 by decide, if_false] at hf
         refine fin_id hE 0 rfl rfl rfl rfl ⟨none, 0, ([], 10), ?_, (by rw [hf]; exact RIn.err rfl (by decide)), rfl, rfl⟩
         rw [hf]; rfl)
      all_goals
        have hs0 : s.2.2 ≠ 0 := by rw [← hA.he]; assumption
        have hf := hfin2 h18 _ _ _ hmv
        rw [sFail_erI hs0] at hf
        simp only [ite_self, hs0, if_false] at hf
        refine fin_id hE 0 rfl rfl rfl rfl ⟨A2, c2, r2, ?_, (by rw [hf]; exact hA), rfl, rfl⟩
        rw [hf]; rfl
    · have hd0 : d.2.2 ≠ 0 := by rw [← hD.he]; assumption
      have hq := hpe hd0
      have hf := hfin2 h18 _ _ _ hmv
      rw [hq, sFail_erI hd0] at hf
      simp only [ite_self, hd0, if_false] at hf
      refine fin_id hE 0 rfl rfl rfl rfl ⟨A1, c1, r1, ?_, ?_, rfl, rfl⟩
      · rw [hf]; rfl
      · rw [hf]; exact hD
end Go.Proofs.YtchebkpcgglllaaGreat.Cu

namespace Go.Proofs.YtchebkpcgglllaaGreat.Cu
open Go Go.SX Go.Proofs.YtchebkpcgglllaaGreat.VT
set_option maxRecDepth 100000
set_option linter.unusedVariables false
set_option linter.unusedSimpArgs false

theorem optN_err {u : Bool} {bound why : Int} {p : Ps} (h : p.2 ≠ 0) : optN u bound why p = (0, p) := by
  cases u
  · rfl
  · exact sNum_err h
theorem optI_err {u : Bool} {p : Ps} (h : p.2 ≠ 0) : optI u p = (0, p) := by
  cases u
  · rfl
  · exact sInt_err h
theorem sFlds_err {op regs : Int} {p : Ps} (h : p.2 ≠ 0) : sFlds op regs p = ((0, 0, 0, 0), p) := by
  unfold sFlds
  simp only [optN_err h, optI_err h]
theorem sPlace_err {regs slots : Int} {q : Ps} (hq : q.2 ≠ 0) : (sPlace regs slots q).2 = q := by
  unfold sPlace; simp only; rw [sUint_err hq, if_neg (fun h => hq h.1)]
theorem sMove_err {regs slots : Int} {p : Ps} (h : p.2 ≠ 0) : (sMove regs slots p).2 = p := by
  unfold sMove; simp only [sPlace_err h, sFail_erI h, ite_self]
theorem sRead_err {op regs slots : Int} {p : Ps} (h : p.2 ≠ 0) : sRead op regs slots p = (mac0, p) := by
  unfold sRead
  split
  · simp only [sMove_err h, h, if_false]
  · simp only [sFlds_err h, h, if_false]
def Mac.ins (m : Mac) : Ins := ⟨m.op, m.d, m.a, m.b, m.imm⟩
theorem sIns_is {regs : Int} {p : Ps} (h : (sFirst srcOp 8 p).1 ≠ 18) : sIns regs p = ((sRead (sFirst srcOp 8 p).1 regs 0 (sFirst srcOp 8 p).2).1.ins, (sRead (sFirst srcOp 8 p).1 regs 0 (sFirst srcOp 8 p).2).2) := by
  unfold sIns sRead
  rw [if_neg h]
  simp only
  split <;> rfl
theorem sIns_err {regs : Int} {p : Ps} (h : (sFirst srcOp 8 p).2.2 ≠ 0) : sIns regs p = (⟨0, 0, 0, 0, 0⟩, (sFirst srcOp 8 p).2) := by
  unfold sIns
  simp only [sFlds_err h, h, if_false]
theorem srcOp_good : srcOp = goodR 17 0 := by
  funext x; unfold srcOp goodR known; rw [decide_eq_decide]; omega
theorem machOp_good : machOp = goodR 18 2 := by
  funext x; unfold machOp goodR known; rw [decide_eq_decide]; omega
theorem trmKind_good : trmKind = goodR 3 0 := by
  funext x; unfold trmKind goodR; rw [decide_eq_decide]; omega
theorem sFirst_good {good : Int → Bool} {why : Int} {p : Ps} (hw : why ≠ 0) (h : (sFirst good why p).2.2 = 0) : good (sFirst good why p).1 = true := by
  unfold sFirst at *
  simp only at *
  by_cases hg : good (sByte p).1 = true
  · exact hg
  · rw [if_neg hg] at h
    by_cases he : (sByte p).2.2 = 0
    · rw [sFail_of he] at h; exact absurd h hw
    · rw [sFail_erI he] at h; exact absurd h he
set_option maxHeartbeats 8000000 in
theorem rins_fn {G : Gh} {A : Option Addr} {c : Nat} {p r : Ps} (regs : Int) (hI : RIn G A c p r) (hpb : isB p.1) (hr : 0 ≤ regs) (h1 : regs ≤ 1099511627776) :
    Ct Tryz.prog 84 [inS A c r, .v (.int .i64 regs)] [] G (RPost G (sIns regs p).1.sv (sIns regs p).2) := by
  have hg := sFirst_good (good := srcOp) (why := 8) (p := p) (by decide)
  have hi := sIns_is (regs := regs) (p := p)
  have hi2 := sIns_err (regs := regs) (p := p)
  have hpb1 : isB (sFirst srcOp 8 p).2.1 := fun x hx => hpb x ((sFirst_suf _ _ _).subset hx)
  rw [srcOp_good] at *
  refine fn_of follows [(3, (.cons 0 [] (.cons 1 [] (.cons 2 [] (.cons 3 [1] .nil))))), (5, (.cons 0 [] (.cons 1 [] (.cons 2 [] (.cons 3 [] (.cons 4 [] (.cons 5 [] (.cons 6 [] (.cons 7 [] (.cons 8 [] (.cons 9 [] (.cons 10 [] (.cons 11 [] (.cons 12 [1, 3, 5, 7, 9] (.cons 13 [1, 3, 5, 7, 9, 11] .nil)))))))))))))))] Tryz.func84 rfl rfl fun E hE => ?_
  repeat' ((fail_if_success with_reducible refine Stop.mk ?_);(conv=>whnf);with_reducible refine stop ?_)
  all_goals refine Stop.mk ?_
  refine call_fn [] (rfirst_fn 17 0 8 hI (by decide)) rfl trivial (by decide) ?_
  rintro sv H' G' ⟨v, ⟨A1, c1, r1, rfl, hD, rfl, rfl⟩, hv, hv0⟩ -
  refine ⟨Nat.zero_le _, ?_⟩
  generalize sFirst (goodR 17 0) 8 p = f at *
  repeat' ((fail_if_success with_reducible refine Stop.mk ?_);(conv=>whnf);with_reducible first|refine br_n (fun h=>?_) fun h=>?_|refine drw (by kernel_rfl) ?_|refine stop ?_)
  all_goals refine Stop.mk ?_
  · have h0 : f.2.2 = 0 := by rw [← hD.he]; assumption
    have hv' := hv h0
    subst hv'
    have hg' := hg h0
    have hne : f.1 ≠ 18 := by have := of_decide_eq_true hg'; omega
    replace hi := hi hne
    refine call_fn [] (rread_fn f.1 regs 0 hD hpb1 hr h1 (by omega)) rfl trivial (by decide) ?_
    rintro sv H' G' ⟨A2, c2, r2, rfl, hA, rfl, rfl⟩ -
    refine ⟨Nat.zero_le _, ?_⟩
    repeat' ((fail_if_success with_reducible refine Stop.mk ?_);(conv=>whnf);with_reducible first|refine drw (by kernel_rfl) ?_|refine stop ?_)
    all_goals refine Stop.mk ?_
    refine fin_id hE 0 rfl rfl rfl rfl ⟨A2, c2, r2, ?_, (by rw [hi]; exact hA), rfl, rfl⟩
    rw [hi]; rfl
  · have h0 : f.2.2 ≠ 0 := by rw [← hD.he]; assumption
    replace hi2 := hi2 h0
    refine fin_id hE 0 rfl rfl rfl rfl ⟨A1, c1, r1, ?_, (by rw [hi2]; exact hD), rfl, rfl⟩
    rw [hi2]; rfl
set_option maxHeartbeats 8000000 in
theorem rmac_fn {G : Gh} {A : Option Addr} {c : Nat} {p r : Ps} (regs slots : Int) (hI : RIn G A c p r) (hpb : isB p.1) (hr : 0 ≤ regs) (h1 : regs ≤ 1099511627776) (h2 : slots ≤ 1099511627776) :
    Ct Tryz.prog 86 [inS A c r, .v (.int .i64 regs), .v (.int .i64 slots)] [] G (RPost G (sMac regs slots p).1.sv (sMac regs slots p).2) := by
  have hi := sMac_is regs slots p
  have hpb1 : isB (sFirst machOp 8 p).2.1 := fun x hx => hpb x ((sFirst_suf _ _ _).subset hx)
  rw [machOp_good] at *
  refine fn_of follows [(3, (.cons 0 [] (.cons 1 [] (.cons 2 [] (.cons 3 [1] .nil)))))] Tryz.func86 rfl rfl fun E hE => ?_
  repeat' ((fail_if_success with_reducible refine Stop.mk ?_);(conv=>whnf);with_reducible refine stop ?_)
  all_goals refine Stop.mk ?_
  refine call_fn [] (rfirst_fn 18 2 8 hI (by decide)) rfl trivial (by decide) ?_
  rintro sv H' G' ⟨v, ⟨A1, c1, r1, rfl, hD, rfl, rfl⟩, hv, hv0⟩ -
  refine ⟨Nat.zero_le _, ?_⟩
  generalize sFirst (goodR 18 2) 8 p = f at *
  repeat' ((fail_if_success with_reducible refine Stop.mk ?_);(conv=>whnf);with_reducible first|refine br_n (fun h=>?_) fun h=>?_|refine drw (by kernel_rfl) ?_|refine stop ?_)
  all_goals refine Stop.mk ?_
  · have h0 : f.2.2 = 0 := by rw [← hD.he]; assumption
    have hv' := hv h0
    subst hv'
    refine call_fn [] (rread_fn f.1 regs slots hD hpb1 hr h1 h2) rfl trivial (by decide) ?_
    rintro sv H' G' ⟨A2, c2, r2, rfl, hA, rfl, rfl⟩ -
    refine ⟨Nat.zero_le _, ?_⟩
    repeat' ((fail_if_success with_reducible refine Stop.mk ?_);(conv=>whnf);with_reducible refine stop ?_)
    all_goals refine Stop.mk ?_
    refine fin_id hE 0 rfl rfl rfl rfl ⟨A2, c2, r2, ?_, (by rw [hi]; exact hA), rfl, rfl⟩
    rw [hi]; rfl
  · have h0 : f.2.2 ≠ 0 := by rw [← hD.he]; assumption
    rw [sRead_err h0] at hi
    refine fin_id hE 0 rfl rfl rfl rfl ⟨A1, c1, r1, ?_, (by rw [hi]; exact hD), rfl, rfl⟩
    rw [hi]; rfl
theorem sTrm_is (regs blocks : Int) (p : Ps) : sTrm regs blocks p = (if (sTf (sFirst trmKind 16 p).1 regs blocks (sFirst trmKind 16 p).2).2.2 = 0 then ⟨(sFirst trmKind 16 p).1, (sTf (sFirst trmKind 16 p).1 regs blocks (sFirst trmKind 16 p).2).1.1, (sTf (sFirst trmKind 16 p).1 regs blocks (sFirst trmKind 16 p).2).1.2.1, (sTf (sFirst trmKind 16 p).1 regs blocks (sFirst trmKind 16 p).2).1.2.2⟩ else trm0, (sTf (sFirst trmKind 16 p).1 regs blocks (sFirst trmKind 16 p).2).2) := rfl
theorem sTf_err {k regs blocks : Int} {p : Ps} (h : p.2 ≠ 0) : sTf k regs blocks p = ((0, 0, 0), p) := by
  unfold sTf
  simp only [optN_err h]
theorem sTrm_err {regs blocks : Int} {p : Ps} (h : (sFirst trmKind 16 p).2.2 ≠ 0) : sTrm regs blocks p = (trm0, (sFirst trmKind 16 p).2) := by
  rw [sTrm_is, sTf_err h]
  simp only [h, if_false]
set_option maxHeartbeats 8000000 in
theorem rtrm_fn {G : Gh} {A : Option Addr} {c : Nat} {p r : Ps} (regs blocks : Int) (hI : RIn G A c p r) (hr : 0 ≤ regs) (h1 : regs ≤ 1099511627776) (hr2 : 0 ≤ blocks) (h2 : blocks ≤ 1099511627776) :
    Ct Tryz.prog 85 [inS A c r, .v (.int .i64 regs), .v (.int .i64 blocks)] [] G (RPost G (sTrm regs blocks p).1.sv (sTrm regs blocks p).2) := by
  have hg := sFirst_good (good := trmKind) (why := 16) (p := p) (by decide)
  have hi := sTrm_is regs blocks p
  have hi2 := sTrm_err (regs := regs) (blocks := blocks) (p := p)
  rw [trmKind_good] at *
  refine fn_of follows [(10, (.cons 0 [] (.cons 1 [] (.cons 2 [] (.cons 3 [1] .nil))))), (11, (.cons 0 [] (.cons 1 [] (.cons 2 [0] (.cons 3 [0, 1] .nil)))))] Tryz.func85 rfl rfl fun E hE => ?_
  repeat' ((fail_if_success with_reducible refine Stop.mk ?_);(conv=>whnf);with_reducible refine stop ?_)
  all_goals refine Stop.mk ?_
  refine call_fn [] (rfirst_fn 3 0 16 hI (by decide)) rfl trivial (by decide) ?_
  rintro sv H' G' ⟨v, ⟨A1, c1, r1, rfl, hD, rfl, rfl⟩, hv, hv0⟩ -
  refine ⟨Nat.zero_le _, ?_⟩
  generalize sFirst (goodR 3 0) 16 p = f at *
  by_cases h0 : f.2.2 = 0
  · have hv' := hv h0
    subst hv'
    have hg' := hg h0
    have hk : f.1 = 1 ∨ f.1 = 2 ∨ f.1 = 3 := by have := of_decide_eq_true hg'; omega
    clear hv hv0 hi2
    obtain ⟨k, q⟩ := f
    dsimp only at *
    have hfl : sTf k regs blocks q = sTf k regs blocks q := rfl
    conv at hfl => rhs; unfold sTf
    have dT : ∀ [Decidable True], decide True = true := by intro; exact decide_eq_true trivial
    rcases hk with rfl | rfl | rfl
    all_goals
      simp only [show decide ((1 : Int) ≠ 1) = false by decide, show decide ((1 : Int) ≠ 3) = true by decide, show decide ((1 : Int) = 2) = false by decide, show decide ((2 : Int) ≠ 1) = true by decide, show decide ((2 : Int) ≠ 3) = true by decide, show decide ((2 : Int) = 2) = true by decide, show decide ((3 : Int) ≠ 1) = true by decide, show decide ((3 : Int) ≠ 3) = false by decide, show decide ((3 : Int) = 2) = false by decide, dT, optN] at hfl
      rw [hfl] at hi
      dsimp only at hi
      repeat' ((fail_if_success with_reducible refine Stop.mk ?_);(conv=>whnf);first|((with_reducible refine br_n (fun h=>?_) fun h=>?_) <;> try (exfalso; omega))|with_reducible refine stop ?_)
      all_goals refine Stop.mk ?_
    · refine call_fn [] (rNumber_fn blocks 11 hD ⟨by omega, by omega⟩ (by decide)) rfl trivial (by decide) ?_
      rintro sv H' G' ⟨A2, c2, r2, rfl, hL, rfl, rfl⟩ -
      refine ⟨Nat.zero_le _, ?_⟩
      repeat' ((fail_if_success with_reducible refine Stop.mk ?_);(conv=>whnf);first|((with_reducible refine br_e (fun h=>?_) fun h=>?_) <;> try (exfalso; omega))|((with_reducible refine br_n (fun h=>?_) fun h=>?_) <;> try (exfalso; omega))|with_reducible refine drw (by kernel_rfl) ?_|with_reducible refine stop ?_)
      all_goals refine Stop.mk ?_
      all_goals
        first
          | (rw [if_pos (by rw [← hL.he]; assumption)] at hi
             refine fin_id hE 0 rfl rfl rfl rfl ⟨_, _, _, ?_, (by rw [hi]; exact hL), rfl, rfl⟩
             rw [hi]; rfl)
          | (rw [if_neg (by rw [← hL.he]; assumption)] at hi
             refine fin_id hE 0 rfl rfl rfl rfl ⟨_, _, _, ?_, (by rw [hi]; exact hL), rfl, rfl⟩
             rw [hi]; rfl)
    · refine call_fn [] (rNumber_fn regs 9 hD ⟨by omega, by omega⟩ (by decide)) rfl trivial (by decide) ?_
      rintro sv H' G' ⟨A2, c2, r2, rfl, hA, rfl, rfl⟩ -
      refine ⟨Nat.zero_le _, ?_⟩
      repeat' ((fail_if_success with_reducible refine Stop.mk ?_);(conv=>whnf);first|((with_reducible refine br_n (fun h=>?_) fun h=>?_) <;> try (exfalso; omega))|with_reducible refine stop ?_)
      all_goals refine Stop.mk ?_
      refine call_fn [] (rNumber_fn blocks 11 hA ⟨by omega, by omega⟩ (by decide)) rfl trivial (by decide) ?_
      rintro sv H' G' ⟨A3, c3, r3, rfl, hB, rfl, rfl⟩ -
      refine ⟨Nat.zero_le _, ?_⟩
      repeat' ((fail_if_success with_reducible refine Stop.mk ?_);(conv=>whnf);first|((with_reducible refine br_e (fun h=>?_) fun h=>?_) <;> try (exfalso; omega))|with_reducible refine stop ?_)
      all_goals refine Stop.mk ?_
      refine call_fn [] (rNumber_fn blocks 11 hB ⟨by omega, by omega⟩ (by decide)) rfl trivial (by decide) ?_
      rintro sv H' G' ⟨A4, c4, r4, rfl, hL, rfl, rfl⟩ -
      refine ⟨Nat.zero_le _, ?_⟩
      repeat' ((fail_if_success with_reducible refine Stop.mk ?_);(conv=>whnf);first|((with_reducible refine br_n (fun h=>?_) fun h=>?_) <;> try (exfalso; omega))|with_reducible refine drw (by kernel_rfl) ?_|with_reducible refine stop ?_)
      all_goals refine Stop.mk ?_
      all_goals
        first
          | (rw [if_pos (by rw [← hL.he]; assumption)] at hi
             refine fin_id hE 0 rfl rfl rfl rfl ⟨_, _, _, ?_, (by rw [hi]; exact hL), rfl, rfl⟩
             rw [hi]; rfl)
          | (rw [if_neg (by rw [← hL.he]; assumption)] at hi
             refine fin_id hE 0 rfl rfl rfl rfl ⟨_, _, _, ?_, (by rw [hi]; exact hL), rfl, rfl⟩
             rw [hi]; rfl)
    · refine call_fn [] (rNumber_fn regs 9 hD ⟨by omega, by omega⟩ (by decide)) rfl trivial (by decide) ?_
      rintro sv H' G' ⟨A2, c2, r2, rfl, hL, rfl, rfl⟩ -
      refine ⟨Nat.zero_le _, ?_⟩
      repeat' ((fail_if_success with_reducible refine Stop.mk ?_);(conv=>whnf);first|((with_reducible refine br_e (fun h=>?_) fun h=>?_) <;> try (exfalso; omega))|((with_reducible refine br_n (fun h=>?_) fun h=>?_) <;> try (exfalso; omega))|with_reducible refine drw (by kernel_rfl) ?_|with_reducible refine stop ?_)
      all_goals refine Stop.mk ?_
      all_goals
        first
          | (rw [if_pos (by rw [← hL.he]; assumption)] at hi
             refine fin_id hE 0 rfl rfl rfl rfl ⟨_, _, _, ?_, (by rw [hi]; exact hL), rfl, rfl⟩
             rw [hi]; rfl)
          | (rw [if_neg (by rw [← hL.he]; assumption)] at hi
             refine fin_id hE 0 rfl rfl rfl rfl ⟨_, _, _, ?_, (by rw [hi]; exact hL), rfl, rfl⟩
             rw [hi]; rfl)
  · have hv' := hv0 h0
    subst hv'
    replace hi2 := hi2 h0
    repeat' ((fail_if_success with_reducible refine Stop.mk ?_);(conv=>whnf);first|((with_reducible refine br_n (fun h=>?_) fun h=>?_) <;> try (exfalso; omega))|with_reducible refine stop ?_)
    all_goals refine Stop.mk ?_
    refine call_fn [] (rNumber_fn regs 9 hD ⟨by omega, by omega⟩ (by decide)) rfl trivial (by decide) ?_
    rintro sv H' G' ⟨A2, c2, r2, rfl, hA, rfl, rfl⟩ -
    refine ⟨Nat.zero_le _, ?_⟩
    repeat' ((fail_if_success with_reducible refine Stop.mk ?_);(conv=>whnf);first|((with_reducible refine br_n (fun h=>?_) fun h=>?_) <;> try (exfalso; omega))|with_reducible refine stop ?_)
    all_goals refine Stop.mk ?_
    rw [sNum_err h0] at hA
    dsimp only at hA
    refine call_fn [] (rNumber_fn blocks 11 hA ⟨by omega, by omega⟩ (by decide)) rfl trivial (by decide) ?_
    rintro sv H' G' ⟨A3, c3, r3, rfl, hB, rfl, rfl⟩ -
    refine ⟨Nat.zero_le _, ?_⟩
    repeat' ((fail_if_success with_reducible refine Stop.mk ?_);(conv=>whnf);first|((with_reducible refine br_e (fun h=>?_) fun h=>?_) <;> try (exfalso; omega))|((with_reducible refine br_n (fun h=>?_) fun h=>?_) <;> try (exfalso; omega))|with_reducible refine drw (by kernel_rfl) ?_|with_reducible refine stop ?_)
    all_goals refine Stop.mk ?_
    all_goals
      dsimp only at hB
      rw [sNum_err h0] at hB
      dsimp only at hB
    all_goals
      first
        | exact absurd (show f.2.2 = 0 by rw [← hB.he]; assumption) h0
        | (refine fin_id hE 0 rfl rfl rfl rfl ⟨A3, c3, r3, ?_, (by rw [hi2]; exact hB), rfl, rfl⟩
           rw [hi2]; rfl)
end Go.Proofs.YtchebkpcgglllaaGreat.Cu
