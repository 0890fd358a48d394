/- Iny: In5, In6, In7, In8 in one text. -/
import Derived.Test.YtchebkpcgglllaaGreatInx
import Derived.Test.YtchebkpcgglllaaGreatIn4e
import Derived.Test.YtchebkpcgglllaaGreatNux
namespace Go.Proofs.YtchebkpcgglllaaGreat.Cu
open Go Go.SX Go.Proofs.YtchebkpcgglllaaGreat.VT
set_option maxRecDepth 100000
set_option linter.unusedVariables false
set_option linter.unusedSimpArgs false

def trmKind (k : Int) : Bool := decide (1 ≤ k ∧ k ≤ 3)
def trm0 : Trm := ⟨0, 0, 0, 0⟩
def sTf (k regs blocks : Int) (p : Ps) : (Int × Int × Int) × Ps :=
  let a := optN (decide (k ≠ 1)) regs 9 p
  let t := optN (decide (k ≠ 3)) blocks 11 a.2
  let e := optN (decide (k = 2)) blocks 11 t.2
  ((a.1, t.1, e.1), e.2)
theorem sTf_suf (k regs blocks : Int) (p : Ps) : (sTf k regs blocks p).2.1 <:+ p.1 := (optN_suf _ _ _ _).trans ((optN_suf _ _ _ _).trans (optN_suf _ _ _ _))
def sTrm (regs blocks : Int) (p : Ps) : Trm × Ps :=
  let b := sFirst trmKind 16 p
  let f := sTf b.1 regs blocks b.2
  (if f.2.2 = 0 then ⟨b.1, f.1.1, f.1.2.1, f.1.2.2⟩ else trm0, f.2)
theorem sTrm_suf (regs blocks : Int) (p : Ps) : (sTrm regs blocks p).2.1 <:+ p.1 := (sTf_suf _ _ _ _).trans (sFirst_suf _ _ _)
set_option maxHeartbeats 8000000 in
theorem term_fn {G : Gh} {A : Option Addr} {bs : List Int} {c : Nat} {p : Ps} (regs blocks : Int) (h : CurOK G A c bs p) (hr : 0 ≤ regs ∧ regs ≤ 9223372036854775807) (hb : 0 ≤ blocks ∧ blocks ≤ 9223372036854775807) :
    Ct Tryz.prog 119 [.p 0 0, .v (.int .i64 regs), .v (.int .i64 blocks)] [curL A bs c p] G fun sv H' G' => sv = (sTrm regs blocks p).1.sv ∧ H' = [curL A bs c (sTrm regs blocks p).2] ∧ G' = G := by
  have hbr := sByte_range h.isb
  obtain ⟨k, hk⟩ : ∃ k, k = (sByte p).1 := ⟨_, rfl⟩
  obtain ⟨q, hq⟩ : ∃ q, q = (sFirst trmKind 16 p).2 := ⟨_, rfl⟩
  have hc : CurOK G A c bs q := hq ▸ h.next (sFirst_suf _ _ _)
  have hk1 : (sFirst trmKind 16 p).1 = k := hk.symm
  have hfin : ∀ a t e r, sTf k regs blocks q = ((a, t, e), r) → sTrm regs blocks p = (if r.2 = 0 then ⟨k, a, t, e⟩ else trm0, r) := by
    intro a t e r hf
    simp only [sTrm, hk1, ← hq, hf]
  have hfl : sTf k regs blocks q = sTf k regs blocks q := rfl
  conv at hfl => rhs; unfold sTf
  generalize sTf k regs blocks q = fl at hfl hfin
  have hq3 : (k = 1 ∨ k = 2 ∨ k = 3) ∨ (k ≠ 1 ∧ k ≠ 2 ∧ k ≠ 3) := by omega
  refine fn_of follows [] Tryz.func119 rfl rfl fun E hE => ?_
  repeat' ((fail_if_success with_reducible refine Stop.mk ?_);(conv=>whnf);with_reducible first|refine br_t ?_|refine br_f ?_|refine br_nn ?_|refine br_ns ?_|refine br_not ?_|refine br_d (fun h=>?_) fun h=>?_|refine br_e (fun h=>?_) fun h=>?_|refine br_n (fun h=>?_) fun h=>?_|refine drw (by kernel_rfl) ?_|refine chk (by kernel_rfl) ?_|refine stop ?_)
  all_goals refine Stop.mk ?_
  refine call_fn [0] (pbyte_fn h) rfl ⟨rfl, trivial⟩ (by decide) ?_
  rintro sv H' G' ⟨rfl, rfl, rfl⟩ -
  refine ⟨Nat.le_of_ble_eq_true rfl, ?_⟩
  have hw : IntKind.i64.wrap (sByte p).1 = k := by rw [hk]; exact i64_in (by omega) (by omega)
  repeat' ((fail_if_success with_reducible refine Stop.mk ?_);(conv=>whnf);first|with_reducible refine br_t ?_|with_reducible refine br_f ?_|with_reducible refine br_nn ?_|with_reducible refine br_ns ?_|with_reducible refine br_not ?_|((with_reducible refine br_d (fun h=>?_) fun h=>?_) <;> try (exfalso; omega))|((with_reducible refine br_e (fun h=>?_) fun h=>?_) <;> try (exfalso; omega))|((with_reducible refine br_n (fun h=>?_) fun h=>?_) <;> try (exfalso; omega))|with_reducible refine drw (by kernel_rfl) ?_|with_reducible refine chk (by kernel_rfl) ?_|with_reducible refine stop ?_)
  all_goals refine Stop.mk ?_
  all_goals rw [hw]
  all_goals try
    refine call_fn [0] (pfail_fn 16 (p := (sByte p).2)) rfl ⟨rfl, trivial⟩ (by decide) ?_
    rintro sv H' G' ⟨rfl, rfl, rfl⟩ -
    refine ⟨Nat.le_of_ble_eq_true rfl, ?_⟩
    repeat' ((fail_if_success with_reducible refine Stop.mk ?_);(conv=>whnf);first|with_reducible refine br_t ?_|with_reducible refine br_f ?_|with_reducible refine br_nn ?_|with_reducible refine br_ns ?_|with_reducible refine br_not ?_|((with_reducible refine br_d (fun h=>?_) fun h=>?_) <;> try (exfalso; omega))|((with_reducible refine br_e (fun h=>?_) fun h=>?_) <;> try (exfalso; omega))|((with_reducible refine br_n (fun h=>?_) fun h=>?_) <;> try (exfalso; omega))|with_reducible refine drw (by kernel_rfl) ?_|with_reducible refine chk (by kernel_rfl) ?_|with_reducible refine stop ?_)
    all_goals refine Stop.mk ?_
    have hq' : sFail 16 (sByte p).2 = q := by rw [hq]; unfold sFirst trmKind; rw [← hk]; simp only [decide_eq_true_iff]; rw [if_neg (by omega)]
    rw [hq']
  all_goals try
    have hq' : (sByte p).2 = q := by rw [hq]; unfold sFirst trmKind; rw [← hk]; simp only [decide_eq_true_iff]; rw [if_pos (by omega)]
    rw [hq']
  all_goals try
    refine call_fn [0] (number_fn regs 9 hc hr) rfl ⟨rfl, trivial⟩ (by decide) ?_
    rintro sv H' G' ⟨rfl, rfl, rfl⟩ -
    refine ⟨Nat.le_of_ble_eq_true rfl, ?_⟩
    have hc1 := hc.next (sNum_suf regs 9 _)
    repeat' ((fail_if_success with_reducible refine Stop.mk ?_);(conv=>whnf);first|with_reducible refine br_t ?_|with_reducible refine br_f ?_|with_reducible refine br_nn ?_|with_reducible refine br_ns ?_|with_reducible refine br_not ?_|((with_reducible refine br_d (fun h=>?_) fun h=>?_) <;> try (exfalso; omega))|((with_reducible refine br_e (fun h=>?_) fun h=>?_) <;> try (exfalso; omega))|((with_reducible refine br_n (fun h=>?_) fun h=>?_) <;> try (exfalso; omega))|with_reducible refine drw (by kernel_rfl) ?_|with_reducible refine chk (by kernel_rfl) ?_|with_reducible refine stop ?_)
    all_goals refine Stop.mk ?_
  all_goals try
    refine call_fn [0] (number_fn blocks 11 hc hb) rfl ⟨rfl, trivial⟩ (by decide) ?_
    rintro sv H' G' ⟨rfl, rfl, rfl⟩ -
    refine ⟨Nat.le_of_ble_eq_true rfl, ?_⟩
    repeat' ((fail_if_success with_reducible refine Stop.mk ?_);(conv=>whnf);first|with_reducible refine br_t ?_|with_reducible refine br_f ?_|with_reducible refine br_nn ?_|with_reducible refine br_ns ?_|with_reducible refine br_not ?_|((with_reducible refine br_d (fun h=>?_) fun h=>?_) <;> try (exfalso; omega))|((with_reducible refine br_e (fun h=>?_) fun h=>?_) <;> try (exfalso; omega))|((with_reducible refine br_n (fun h=>?_) fun h=>?_) <;> try (exfalso; omega))|with_reducible refine drw (by kernel_rfl) ?_|with_reducible refine chk (by kernel_rfl) ?_|with_reducible refine stop ?_)
    all_goals refine Stop.mk ?_
  all_goals try
    refine call_fn [0] (number_fn blocks 11 hc1 hb) rfl ⟨rfl, trivial⟩ (by decide) ?_
    rintro sv H' G' ⟨rfl, rfl, rfl⟩ -
    refine ⟨Nat.le_of_ble_eq_true rfl, ?_⟩
    have hc2 := hc1.next (sNum_suf blocks 11 _)
    repeat' ((fail_if_success with_reducible refine Stop.mk ?_);(conv=>whnf);first|with_reducible refine br_t ?_|with_reducible refine br_f ?_|with_reducible refine br_nn ?_|with_reducible refine br_ns ?_|with_reducible refine br_not ?_|((with_reducible refine br_d (fun h=>?_) fun h=>?_) <;> try (exfalso; omega))|((with_reducible refine br_e (fun h=>?_) fun h=>?_) <;> try (exfalso; omega))|((with_reducible refine br_n (fun h=>?_) fun h=>?_) <;> try (exfalso; omega))|with_reducible refine drw (by kernel_rfl) ?_|with_reducible refine chk (by kernel_rfl) ?_|with_reducible refine stop ?_)
    all_goals refine Stop.mk ?_
  all_goals try
    refine call_fn [0] (number_fn blocks 11 hc2 hb) rfl ⟨rfl, trivial⟩ (by decide) ?_
    rintro sv H' G' ⟨rfl, rfl, rfl⟩ -
    refine ⟨Nat.le_of_ble_eq_true rfl, ?_⟩
    repeat' ((fail_if_success with_reducible refine Stop.mk ?_);(conv=>whnf);first|with_reducible refine br_t ?_|with_reducible refine br_f ?_|with_reducible refine br_nn ?_|with_reducible refine br_ns ?_|with_reducible refine br_not ?_|((with_reducible refine br_d (fun h=>?_) fun h=>?_) <;> try (exfalso; omega))|((with_reducible refine br_e (fun h=>?_) fun h=>?_) <;> try (exfalso; omega))|((with_reducible refine br_n (fun h=>?_) fun h=>?_) <;> try (exfalso; omega))|with_reducible refine drw (by kernel_rfl) ?_|with_reducible refine chk (by kernel_rfl) ?_|with_reducible refine stop ?_)
    all_goals refine Stop.mk ?_
  all_goals
    first
      | rw [show decide (k ≠ 1) = false from decide_eq_false (by omega), show decide (k ≠ 3) = true from decide_eq_true (by omega), show decide (k = 2) = false from decide_eq_false (by omega)] at hfl
      | rw [show decide (k ≠ 1) = true from decide_eq_true (by omega), show decide (k ≠ 3) = false from decide_eq_false (by omega), show decide (k = 2) = false from decide_eq_false (by omega)] at hfl
      | rw [show decide (k ≠ 1) = true from decide_eq_true (by omega), show decide (k ≠ 3) = true from decide_eq_true (by omega), show decide (k = 2) = true from decide_eq_true (by omega)] at hfl
      | rw [show decide (k ≠ 1) = true from decide_eq_true (by omega), show decide (k ≠ 3) = true from decide_eq_true (by omega), show decide (k = 2) = false from decide_eq_false (by omega)] at hfl
    simp only [optN] at hfl
    replace hfin := hfin _ _ _ _ hfl
    refine call_fn [0] (perr_fn (p := (sTrm regs blocks p).2)) rfl ⟨by rw [hfin]; rfl, trivial⟩ (by decide) ?_
    rintro sv H' G' ⟨rfl, rfl, rfl⟩ -
    refine ⟨Nat.le_of_ble_eq_true rfl, ?_⟩
    repeat' ((fail_if_success with_reducible refine Stop.mk ?_);(conv=>whnf);with_reducible first|refine br_t ?_|refine br_f ?_|refine br_nn ?_|refine br_ns ?_|refine br_not ?_|refine br_d (fun h=>?_) fun h=>?_|refine br_e (fun h=>?_) fun h=>?_|refine br_n (fun h=>?_) fun h=>?_|refine drw (by kernel_rfl) ?_|refine chk (by kernel_rfl) ?_|refine stop ?_)
    all_goals refine Stop.mk ?_
  all_goals
    refine fin_id hE 1 rfl rfl rfl rfl ⟨?_, ?_, rfl⟩
    · rw [hfin] at h ⊢
      dsimp only at h ⊢
      first
        | (rw [if_pos h]; rfl)
        | (rw [if_neg h]; rfl)
    · rw [hfin]; rfl
end Go.Proofs.YtchebkpcgglllaaGreat.Cu

namespace Go.Proofs.YtchebkpcgglllaaGreat.Cu
open Go Go.SX Go.Proofs.YtchebkpcgglllaaGreat.VT
set_option maxRecDepth 100000
set_option linter.unusedVariables false
set_option linter.unusedSimpArgs false

theorem r17put_fn (G : Gh) (l : List Int) (n : Int) (hl : l.length ≤ 1000000) :
    Ct Tryz.prog 139 [.s 0, .v (.int .i64 n)] [rowB l] G fun sv H' G' => sv = .s 0 ∧ H' = [rowB (l ++ pU n)] ∧ G' = G := by
  have hp := pU_len n
  have hn := pU_nat n
  have hrp := rput_fn G (IntKind.u64.wrap n).toNat (by omega)
  rw [Int.toNat_of_nonneg hn.1] at hrp
  refine fn_of follows [] Tryz.func139 rfl rfl fun E hE => ?_
  repeat' ((fail_if_success with_reducible refine Stop.mk ?_);(conv=>whnf);with_reducible first|refine br_t ?_|refine br_f ?_|refine br_nn ?_|refine br_ns ?_|refine br_not ?_|refine br_d (fun h=>?_) fun h=>?_|refine br_e (fun h=>?_) fun h=>?_|refine br_n (fun h=>?_) fun h=>?_|refine drw (by kernel_rfl) ?_|refine chk (by kernel_rfl) ?_|refine stop ?_)
  all_goals refine Stop.mk ?_
  refine call_fn [] (hrp) rfl trivial (by decide) ?_
  rintro sv H' G' ⟨rfl, rfl, rfl⟩ -
  refine ⟨Nat.le_of_ble_eq_true rfl, ?_⟩
  repeat' ((fail_if_success with_reducible refine Stop.mk ?_);(conv=>whnf);with_reducible first|refine br_t ?_|refine br_f ?_|refine br_nn ?_|refine br_ns ?_|refine br_not ?_|refine br_d (fun h=>?_) fun h=>?_|refine br_e (fun h=>?_) fun h=>?_|refine br_n (fun h=>?_) fun h=>?_|refine drw (by kernel_rfl) ?_|refine chk (by kernel_rfl) ?_|refine stop ?_)
  all_goals refine Stop.mk ?_
  refine ⟨byts_one _, ⟨by show (l.length + (pU n).length) * 1 ≤ _; omega, ?_⟩⟩
  repeat' ((fail_if_success with_reducible refine Stop.mk ?_);(conv=>whnf);with_reducible first|refine br_t ?_|refine br_f ?_|refine br_nn ?_|refine br_ns ?_|refine br_not ?_|refine br_d (fun h=>?_) fun h=>?_|refine br_e (fun h=>?_) fun h=>?_|refine br_n (fun h=>?_) fun h=>?_|refine drw (by kernel_rfl) ?_|refine chk (by kernel_rfl) ?_|refine stop ?_)
  all_goals refine Stop.mk ?_
  refine fin_id hE 1 rfl rfl rfl rfl ⟨rfl, ?_, rfl⟩
  rw [← rowB_app']; rfl
theorem rzig_fn (G : Gh) (n : Int) (h0 : -9223372036854775808 ≤ n) (h1 : n ≤ 9223372036854775807) :
    Ct Tryz.prog 143 [.v (.int .i64 n)] [] G fun sv H' G' => sv = .v (.int .u64 (zig n)) ∧ H' = [] ∧ G' = G := by
  refine fn_of follows [] Tryz.func143 rfl rfl fun E hE => ?_
  repeat' ((fail_if_success with_reducible refine Stop.mk ?_);(conv=>whnf);with_reducible first|refine br_t ?_|refine br_f ?_|refine br_nn ?_|refine br_ns ?_|refine br_not ?_|refine br_d (fun h=>?_) fun h=>?_|refine br_e (fun h=>?_) fun h=>?_|refine br_n (fun h=>?_) fun h=>?_|refine drw (by kernel_rfl) ?_|refine chk (by kernel_rfl) ?_|refine stop ?_)
  all_goals refine Stop.mk ?_
  · refine fin_all ⟨svi ?_, rfl, rfl⟩
    unfold zig
    rw [if_pos (by omega), u64_in (n := n) (by omega) (by omega), u64_in (by omega) (by omega)]
  · refine fin_all ⟨svi ?_, rfl, rfl⟩
    unfold zig
    rw [if_neg (by omega)]
    simp only [IntKind.wrap_u64, IntKind.wrap_i64]
    omega
set_option maxHeartbeats 8000000 in
theorem r17Put_fn (G : Gh) (i : Mac) (hi : i.ok) :
    Ct Tryz.prog 101 [i.sv] [] G fun sv H' G' => sv = .s 0 ∧ H' = [rowB (putMacB i)] ∧ G' = G := by
  obtain ⟨hi1, hi2, hi3, hi4, hi5, hi6, hi7⟩ := hi
  have hd := pU_len i.d
  have ha := pU_len i.a
  have hb := pU_len i.b
  have hdst := pU_len i.dst
  have hsh := shape_of i.op
  refine fn_of follows [(11, (.cons 0 [] (.cons 1 [] (.cons 2 [] (.cons 4 [] (.cons 5 [] (.cons 3 [2] (.cons 6 [2, 5] (.cons 7 [] .nil)))))))))] Tryz.func101 rfl rfl fun E hE => ?_
  repeat' ((fail_if_success with_reducible refine Stop.mk ?_);(conv=>whnf);with_reducible first|refine br_t ?_|refine br_f ?_|refine br_nn ?_|refine br_ns ?_|refine br_not ?_|refine br_d (fun h=>?_) fun h=>?_|refine br_e (fun h=>?_) fun h=>?_|refine br_n (fun h=>?_) fun h=>?_|refine drw (by kernel_rfl) ?_|refine chk (by kernel_rfl) ?_|refine stop ?_)
  all_goals refine Stop.mk ?_
  rcases hsh with ⟨e1, e2, e3, e4⟩ | ⟨e1, e2, e3, e4⟩ | ⟨e1, e2, e3, e4⟩ | ⟨e1, e2, e3, e4⟩ | ⟨e1, e2, e3, e4⟩
  all_goals
    refine call_fn [] (usesD_fn _ i.op) rfl trivial (by decide) ?_
    rintro sv H' G' ⟨rfl, rfl, rfl⟩ -
    refine ⟨Nat.le_of_ble_eq_true rfl, ?_⟩
    rw [e1]
    repeat' ((fail_if_success with_reducible refine Stop.mk ?_);(conv=>whnf);with_reducible first|refine br_t ?_|refine br_f ?_|refine br_nn ?_|refine br_ns ?_|refine br_not ?_|refine br_d (fun h=>?_) fun h=>?_|refine br_e (fun h=>?_) fun h=>?_|refine br_n (fun h=>?_) fun h=>?_|refine drw (by kernel_rfl) ?_|refine chk (by kernel_rfl) ?_|refine stop ?_)
    all_goals refine Stop.mk ?_
  all_goals try
    refine call_fn [1] (r17put_fn _ [IntKind.u8.wrap i.op] i.d (by (try simp only [List.length_append, List.length_cons, List.length_nil]); omega)) rfl ⟨rfl, trivial⟩ (by decide) ?_
    rintro sv H' G' ⟨rfl, rfl, rfl⟩ -
    refine ⟨Nat.le_of_ble_eq_true rfl, ?_⟩
    repeat' ((fail_if_success with_reducible refine Stop.mk ?_);(conv=>whnf);with_reducible first|refine br_t ?_|refine br_f ?_|refine br_nn ?_|refine br_ns ?_|refine br_not ?_|refine br_d (fun h=>?_) fun h=>?_|refine br_e (fun h=>?_) fun h=>?_|refine br_n (fun h=>?_) fun h=>?_|refine drw (by kernel_rfl) ?_|refine chk (by kernel_rfl) ?_|refine stop ?_)
    all_goals refine Stop.mk ?_
  all_goals
    refine call_fn [] (usesA_fn _ i.op) rfl trivial (by decide) ?_
    rintro sv H' G' ⟨rfl, rfl, rfl⟩ -
    refine ⟨Nat.le_of_ble_eq_true rfl, ?_⟩
    rw [e2]
    repeat' ((fail_if_success with_reducible refine Stop.mk ?_);(conv=>whnf);with_reducible first|refine br_t ?_|refine br_f ?_|refine br_nn ?_|refine br_ns ?_|refine br_not ?_|refine br_d (fun h=>?_) fun h=>?_|refine br_e (fun h=>?_) fun h=>?_|refine br_n (fun h=>?_) fun h=>?_|refine drw (by kernel_rfl) ?_|refine chk (by kernel_rfl) ?_|refine stop ?_)
    all_goals refine Stop.mk ?_
  all_goals try
    refine call_fn [1] (r17put_fn _ [IntKind.u8.wrap i.op] i.a (by (try simp only [List.length_append, List.length_cons, List.length_nil]); omega)) rfl ⟨rfl, trivial⟩ (by decide) ?_
    rintro sv H' G' ⟨rfl, rfl, rfl⟩ -
    refine ⟨Nat.le_of_ble_eq_true rfl, ?_⟩
    repeat' ((fail_if_success with_reducible refine Stop.mk ?_);(conv=>whnf);with_reducible first|refine br_t ?_|refine br_f ?_|refine br_nn ?_|refine br_ns ?_|refine br_not ?_|refine br_d (fun h=>?_) fun h=>?_|refine br_e (fun h=>?_) fun h=>?_|refine br_n (fun h=>?_) fun h=>?_|refine drw (by kernel_rfl) ?_|refine chk (by kernel_rfl) ?_|refine stop ?_)
    all_goals refine Stop.mk ?_
  all_goals try
    refine call_fn [1] (r17put_fn _ _ i.a (by (try simp only [List.length_append, List.length_cons, List.length_nil]); omega)) rfl ⟨rfl, trivial⟩ (by decide) ?_
    rintro sv H' G' ⟨rfl, rfl, rfl⟩ -
    refine ⟨Nat.le_of_ble_eq_true rfl, ?_⟩
    repeat' ((fail_if_success with_reducible refine Stop.mk ?_);(conv=>whnf);with_reducible first|refine br_t ?_|refine br_f ?_|refine br_nn ?_|refine br_ns ?_|refine br_not ?_|refine br_d (fun h=>?_) fun h=>?_|refine br_e (fun h=>?_) fun h=>?_|refine br_n (fun h=>?_) fun h=>?_|refine drw (by kernel_rfl) ?_|refine chk (by kernel_rfl) ?_|refine stop ?_)
    all_goals refine Stop.mk ?_
  all_goals
    refine call_fn [] (usesB_fn _ i.op) rfl trivial (by decide) ?_
    rintro sv H' G' ⟨rfl, rfl, rfl⟩ -
    refine ⟨Nat.le_of_ble_eq_true rfl, ?_⟩
    rw [e3]
    repeat' ((fail_if_success with_reducible refine Stop.mk ?_);(conv=>whnf);with_reducible first|refine br_t ?_|refine br_f ?_|refine br_nn ?_|refine br_ns ?_|refine br_not ?_|refine br_d (fun h=>?_) fun h=>?_|refine br_e (fun h=>?_) fun h=>?_|refine br_n (fun h=>?_) fun h=>?_|refine drw (by kernel_rfl) ?_|refine chk (by kernel_rfl) ?_|refine stop ?_)
    all_goals refine Stop.mk ?_
  all_goals try
    refine call_fn [1] (r17put_fn _ _ i.b (by (try simp only [List.length_append, List.length_cons, List.length_nil]); omega)) rfl ⟨rfl, trivial⟩ (by decide) ?_
    rintro sv H' G' ⟨rfl, rfl, rfl⟩ -
    refine ⟨Nat.le_of_ble_eq_true rfl, ?_⟩
    repeat' ((fail_if_success with_reducible refine Stop.mk ?_);(conv=>whnf);with_reducible first|refine br_t ?_|refine br_f ?_|refine br_nn ?_|refine br_ns ?_|refine br_not ?_|refine br_d (fun h=>?_) fun h=>?_|refine br_e (fun h=>?_) fun h=>?_|refine br_n (fun h=>?_) fun h=>?_|refine drw (by kernel_rfl) ?_|refine chk (by kernel_rfl) ?_|refine stop ?_)
    all_goals refine Stop.mk ?_
  all_goals try
    refine call_fn [1] (r17put_fn _ [IntKind.u8.wrap i.op] i.dst (by (try simp only [List.length_append, List.length_cons, List.length_nil]); omega)) rfl ⟨rfl, trivial⟩ (by decide) ?_
    rintro sv H' G' ⟨rfl, rfl, rfl⟩ -
    refine ⟨Nat.le_of_ble_eq_true rfl, ?_⟩
    repeat' ((fail_if_success with_reducible refine Stop.mk ?_);(conv=>whnf);with_reducible first|refine br_t ?_|refine br_f ?_|refine br_nn ?_|refine br_ns ?_|refine br_not ?_|refine br_d (fun h=>?_) fun h=>?_|refine br_e (fun h=>?_) fun h=>?_|refine br_n (fun h=>?_) fun h=>?_|refine drw (by kernel_rfl) ?_|refine chk (by kernel_rfl) ?_|refine stop ?_)
    all_goals refine Stop.mk ?_
  all_goals try
    refine call_fn [1] (r17put_fn _ _ i.dst (by (try simp only [List.length_append, List.length_cons, List.length_nil]); omega)) rfl ⟨rfl, trivial⟩ (by decide) ?_
    rintro sv H' G' ⟨rfl, rfl, rfl⟩ -
    refine ⟨Nat.le_of_ble_eq_true rfl, ?_⟩
    repeat' ((fail_if_success with_reducible refine Stop.mk ?_);(conv=>whnf);with_reducible first|refine br_t ?_|refine br_f ?_|refine br_nn ?_|refine br_ns ?_|refine br_not ?_|refine br_d (fun h=>?_) fun h=>?_|refine br_e (fun h=>?_) fun h=>?_|refine br_n (fun h=>?_) fun h=>?_|refine drw (by kernel_rfl) ?_|refine chk (by kernel_rfl) ?_|refine stop ?_)
    all_goals refine Stop.mk ?_
  all_goals try
    refine call_fn [1] (r17put_fn _ _ i.src (by (try simp only [List.length_append, List.length_cons, List.length_nil]); omega)) rfl ⟨rfl, trivial⟩ (by decide) ?_
    rintro sv H' G' ⟨rfl, rfl, rfl⟩ -
    refine ⟨Nat.le_of_ble_eq_true rfl, ?_⟩
    repeat' ((fail_if_success with_reducible refine Stop.mk ?_);(conv=>whnf);with_reducible first|refine br_t ?_|refine br_f ?_|refine br_nn ?_|refine br_ns ?_|refine br_not ?_|refine br_d (fun h=>?_) fun h=>?_|refine br_e (fun h=>?_) fun h=>?_|refine br_n (fun h=>?_) fun h=>?_|refine drw (by kernel_rfl) ?_|refine chk (by kernel_rfl) ?_|refine stop ?_)
    all_goals refine Stop.mk ?_
  all_goals try
    refine call_fn [] (rzig_fn _ i.imm hi5.1 hi5.2) rfl trivial (by decide) ?_
    rintro sv H' G' ⟨rfl, rfl, rfl⟩ -
    refine ⟨Nat.le_of_ble_eq_true rfl, ?_⟩
    have hz := zig_range i.imm hi5.1 hi5.2
    have hrp := rput_fn G' (zig i.imm).toNat (by omega)
    rw [Int.toNat_of_nonneg hz.1] at hrp
    have hpl := putB_len (zig i.imm).toNat
    repeat' ((fail_if_success with_reducible refine Stop.mk ?_);(conv=>whnf);with_reducible first|refine br_t ?_|refine br_f ?_|refine br_nn ?_|refine br_ns ?_|refine br_not ?_|refine br_d (fun h=>?_) fun h=>?_|refine br_e (fun h=>?_) fun h=>?_|refine br_n (fun h=>?_) fun h=>?_|refine drw (by kernel_rfl) ?_|refine chk (by kernel_rfl) ?_|refine stop ?_)
    all_goals refine Stop.mk ?_
    refine call_fn [] hrp rfl trivial (by decide) ?_
    rintro sv H' G' ⟨rfl, rfl, rfl⟩ -
    refine ⟨Nat.le_of_ble_eq_true rfl, ?_⟩
    repeat' ((fail_if_success with_reducible refine Stop.mk ?_);(conv=>whnf);with_reducible first|refine br_t ?_|refine br_f ?_|refine br_nn ?_|refine br_ns ?_|refine br_not ?_|refine br_d (fun h=>?_) fun h=>?_|refine br_e (fun h=>?_) fun h=>?_|refine br_n (fun h=>?_) fun h=>?_|refine drw (by kernel_rfl) ?_|refine chk (by kernel_rfl) ?_|refine stop ?_)
    all_goals refine Stop.mk ?_
    refine ⟨byts_one _, ⟨by show (([IntKind.u8.wrap i.op] ++ pU i.d).length + (putB (zig i.imm).toNat).length) * 1 ≤ _; simp only [List.length_append, List.length_cons, List.length_nil]; omega, ?_⟩⟩
    repeat' ((fail_if_success with_reducible refine Stop.mk ?_);(conv=>whnf);first|with_reducible refine br_t ?_|with_reducible refine br_f ?_|with_reducible refine br_nn ?_|with_reducible refine br_ns ?_|with_reducible refine br_not ?_|((with_reducible refine br_d (fun h=>?_) fun h=>?_) <;> try (exfalso; omega))|((with_reducible refine br_e (fun h=>?_) fun h=>?_) <;> try (exfalso; omega))|((with_reducible refine br_n (fun h=>?_) fun h=>?_) <;> try (exfalso; omega))|with_reducible refine drw (by kernel_rfl) ?_|with_reducible refine chk (by kernel_rfl) ?_|with_reducible refine stop ?_)
    all_goals refine Stop.mk ?_
  all_goals try (exfalso; have h1 : i.op = 1 := by assumption
                 rw [h1] at e4; exact absurd e4 (by decide))
  all_goals try (exfalso; have h1 : i.op ≠ 1 := by assumption
                 exact h1 (of_decide_eq_true e4))
  all_goals
    first
      | refine fin_mk hE [1] (.s 0) [rowB (putMacB i)] rfl ⟨congrArg some (show rowB _ = rowB _ from congrArg rowB ?_), trivial⟩ rfl ⟨rfl, rfl, rfl⟩
      | refine fin_mk hE [1] (.s 0) [rowB (putMacB i)] rfl ⟨congrArg some ((rowB_app' _ _).trans (congrArg rowB ?_)), trivial⟩ rfl ⟨rfl, rfl, rfl⟩
      | refine fin_mk hE [1] (.s 0) [rowB (putMacB i)] rfl ⟨congrArg some (show rowB [IntKind.u8.wrap i.op] = rowB _ from congrArg rowB ?_), trivial⟩ rfl ⟨rfl, rfl, rfl⟩
    simp only [putMacB, fieldsB, e1, e2, e3, e4, if_true, Bool.false_eq_true, if_false]
    first
      | (rw [if_pos (by assumption)]; simp)
      | (rw [if_neg (by first | assumption | omega)]; simp)
theorem r17PutInstr_fn (G : Gh) (i : Ins) (hi : i.ok) (h18 : i.op ≠ 18) :
    Ct Tryz.prog 99 [i.sv] [] G fun sv H' G' => sv = .s 0 ∧ H' = [rowB (putInsB i)] ∧ G' = G := by
  obtain ⟨hi1, hi2, hi3, hi4, hi5⟩ := hi
  refine fn_of follows [] Tryz.func99 rfl rfl fun E hE => ?_
  repeat' ((fail_if_success with_reducible refine Stop.mk ?_);(conv=>whnf);with_reducible first|refine br_t ?_|refine br_f ?_|refine br_nn ?_|refine br_ns ?_|refine br_not ?_|refine br_d (fun h=>?_) fun h=>?_|refine br_e (fun h=>?_) fun h=>?_|refine br_n (fun h=>?_) fun h=>?_|refine drw (by kernel_rfl) ?_|refine chk (by kernel_rfl) ?_|refine stop ?_)
  all_goals refine Stop.mk ?_
  refine call_fn [] (r17Put_fn _ ⟨i.op, i.d, i.a, i.b, i.imm, 0, 0⟩ ⟨hi1, hi2, hi3, hi4, hi5, in64_0, in64_0⟩) rfl trivial (by decide) ?_
  rintro sv H' G' ⟨rfl, rfl, rfl⟩ -
  refine ⟨Nat.le_of_ble_eq_true rfl, ?_⟩
  repeat' ((fail_if_success with_reducible refine Stop.mk ?_);(conv=>whnf);with_reducible first|refine br_t ?_|refine br_f ?_|refine br_nn ?_|refine br_ns ?_|refine br_not ?_|refine br_d (fun h=>?_) fun h=>?_|refine br_e (fun h=>?_) fun h=>?_|refine br_n (fun h=>?_) fun h=>?_|refine drw (by kernel_rfl) ?_|refine chk (by kernel_rfl) ?_|refine stop ?_)
  all_goals refine Stop.mk ?_
  refine fin_mk hE [1] (.s 0) [rowB (putInsB i)] rfl ⟨congrArg some (show rowB _ = rowB _ from congrArg rowB ?_), trivial⟩ rfl ⟨rfl, rfl, rfl⟩
  simp [putMacB, putInsB, h18]
set_option maxHeartbeats 8000000 in
theorem r17PutTerm_fn (G : Gh) (t : Trm) :
    Ct Tryz.prog 100 [t.sv] [] G fun sv H' G' => sv = .s 0 ∧ H' = [rowB (putTrmB t)] ∧ G' = G := by
  have ha := pU_len t.a
  have hto := pU_len t.to_
  refine fn_of follows [] Tryz.func100 rfl rfl fun E hE => ?_
  repeat' ((fail_if_success with_reducible refine Stop.mk ?_);(conv=>whnf);with_reducible first|refine br_t ?_|refine br_f ?_|refine br_nn ?_|refine br_ns ?_|refine br_not ?_|refine br_d (fun h=>?_) fun h=>?_|refine br_e (fun h=>?_) fun h=>?_|refine br_n (fun h=>?_) fun h=>?_|refine drw (by kernel_rfl) ?_|refine chk (by kernel_rfl) ?_|refine stop ?_)
  all_goals refine Stop.mk ?_
  all_goals try
    refine call_fn [1] (r17put_fn _ [IntKind.u8.wrap t.kind] t.a (by (try simp only [List.length_append, List.length_cons, List.length_nil]); omega)) rfl ⟨rfl, trivial⟩ (by decide) ?_
    rintro sv H' G' ⟨rfl, rfl, rfl⟩ -
    refine ⟨Nat.le_of_ble_eq_true rfl, ?_⟩
    repeat' ((fail_if_success with_reducible refine Stop.mk ?_);(conv=>whnf);first|with_reducible refine br_t ?_|with_reducible refine br_f ?_|with_reducible refine br_nn ?_|with_reducible refine br_ns ?_|with_reducible refine br_not ?_|((with_reducible refine br_d (fun h=>?_) fun h=>?_) <;> try (exfalso; omega))|((with_reducible refine br_e (fun h=>?_) fun h=>?_) <;> try (exfalso; omega))|((with_reducible refine br_n (fun h=>?_) fun h=>?_) <;> try (exfalso; omega))|with_reducible refine drw (by kernel_rfl) ?_|with_reducible refine chk (by kernel_rfl) ?_|with_reducible refine stop ?_)
    all_goals refine Stop.mk ?_
  all_goals try
    refine call_fn [1] (r17put_fn _ [IntKind.u8.wrap t.kind] t.to_ (by (try simp only [List.length_append, List.length_cons, List.length_nil]); omega)) rfl ⟨rfl, trivial⟩ (by decide) ?_
    rintro sv H' G' ⟨rfl, rfl, rfl⟩ -
    refine ⟨Nat.le_of_ble_eq_true rfl, ?_⟩
    repeat' ((fail_if_success with_reducible refine Stop.mk ?_);(conv=>whnf);first|with_reducible refine br_t ?_|with_reducible refine br_f ?_|with_reducible refine br_nn ?_|with_reducible refine br_ns ?_|with_reducible refine br_not ?_|((with_reducible refine br_d (fun h=>?_) fun h=>?_) <;> try (exfalso; omega))|((with_reducible refine br_e (fun h=>?_) fun h=>?_) <;> try (exfalso; omega))|((with_reducible refine br_n (fun h=>?_) fun h=>?_) <;> try (exfalso; omega))|with_reducible refine drw (by kernel_rfl) ?_|with_reducible refine chk (by kernel_rfl) ?_|with_reducible refine stop ?_)
    all_goals refine Stop.mk ?_
  all_goals try
    refine call_fn [1] (r17put_fn _ _ t.to_ (by (try simp only [List.length_append, List.length_cons, List.length_nil]); omega)) rfl ⟨rfl, trivial⟩ (by decide) ?_
    rintro sv H' G' ⟨rfl, rfl, rfl⟩ -
    refine ⟨Nat.le_of_ble_eq_true rfl, ?_⟩
    repeat' ((fail_if_success with_reducible refine Stop.mk ?_);(conv=>whnf);first|with_reducible refine br_t ?_|with_reducible refine br_f ?_|with_reducible refine br_nn ?_|with_reducible refine br_ns ?_|with_reducible refine br_not ?_|((with_reducible refine br_d (fun h=>?_) fun h=>?_) <;> try (exfalso; omega))|((with_reducible refine br_e (fun h=>?_) fun h=>?_) <;> try (exfalso; omega))|((with_reducible refine br_n (fun h=>?_) fun h=>?_) <;> try (exfalso; omega))|with_reducible refine drw (by kernel_rfl) ?_|with_reducible refine chk (by kernel_rfl) ?_|with_reducible refine stop ?_)
    all_goals refine Stop.mk ?_
  all_goals try
    refine call_fn [1] (r17put_fn _ _ t.els (by (try simp only [List.length_append, List.length_cons, List.length_nil]); omega)) rfl ⟨rfl, trivial⟩ (by decide) ?_
    rintro sv H' G' ⟨rfl, rfl, rfl⟩ -
    refine ⟨Nat.le_of_ble_eq_true rfl, ?_⟩
    repeat' ((fail_if_success with_reducible refine Stop.mk ?_);(conv=>whnf);first|with_reducible refine br_t ?_|with_reducible refine br_f ?_|with_reducible refine br_nn ?_|with_reducible refine br_ns ?_|with_reducible refine br_not ?_|((with_reducible refine br_d (fun h=>?_) fun h=>?_) <;> try (exfalso; omega))|((with_reducible refine br_e (fun h=>?_) fun h=>?_) <;> try (exfalso; omega))|((with_reducible refine br_n (fun h=>?_) fun h=>?_) <;> try (exfalso; omega))|with_reducible refine drw (by kernel_rfl) ?_|with_reducible refine chk (by kernel_rfl) ?_|with_reducible refine stop ?_)
    all_goals refine Stop.mk ?_
  all_goals try (exfalso; omega)
  all_goals
    first
      | refine fin_mk hE [1] (.s 0) [rowB (putTrmB t)] rfl ⟨congrArg some (show rowB _ = rowB _ from congrArg rowB ?_), trivial⟩ rfl ⟨rfl, rfl, rfl⟩
    first
      | (have h3 : t.kind = 1 := by omega
         simp [putTrmB, h3])
      | (have h3 : t.kind = 2 := by omega
         simp [putTrmB, h3])
      | (have h3 : t.kind = 3 := by omega
         simp [putTrmB, h3])
      | simp [putTrmB, *]
end Go.Proofs.YtchebkpcgglllaaGreat.Cu

namespace Go.Proofs.YtchebkpcgglllaaGreat.Cu
open Go Go.SX Go.Proofs.YtchebkpcgglllaaGreat.VT
set_option maxRecDepth 100000
set_option linter.unusedVariables false
set_option linter.unusedSimpArgs false

theorem sFail_erI {why : Int} {p : Ps} (h : p.2 ≠ 0) : sFail why p = p := by unfold sFail failE; rw [if_neg h]
/-! ### read -/
end Go.Proofs.YtchebkpcgglllaaGreat.Cu

namespace Go.Proofs.YtchebkpcgglllaaGreat.Cu
open Go Go.SX Go.Proofs.YtchebkpcgglllaaGreat.VT
set_option maxRecDepth 100000
set_option linter.unusedVariables false
set_option linter.unusedSimpArgs false

def Mac.ins (m : Mac) : Ins := ⟨m.op, m.d, m.a, m.b, m.imm⟩
end Go.Proofs.YtchebkpcgglllaaGreat.Cu
