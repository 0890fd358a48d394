/- Inx: In2, In3, In4 in one text. -/
import Derived.Test.YtchebkpcgglllaaGreatNux
namespace Go.Proofs.YtchebkpcgglllaaGreat.Cu
open Go Go.SX Go.Proofs.YtchebkpcgglllaaGreat.VT
set_option maxRecDepth 100000
set_option linter.unusedVariables false
set_option linter.unusedSimpArgs false

def fieldsB (sD sA sB sI : Bool) (d a b imm : Int) : List Int :=
  (if sD then pU d else []) ++ (if sA then pU a else []) ++ (if sB then pU b else []) ++ (if sI then putB (zig imm).toNat else [])
theorem fieldsB_len (sD sA sB sI : Bool) (d a b imm : Int) : (fieldsB sD sA sB sI d a b imm).length ≤ 40 := by
  have := pU_len d
  have := pU_len a
  have := pU_len b
  have := putB_len (zig imm).toNat
  unfold fieldsB
  simp only [List.length_append]
  (repeat' split) <;> (try simp only [List.length_nil]) <;> omega
set_option maxHeartbeats 8000000 in
theorem fields_fn (G : Gh) (sD sA sB sI : Bool) (d a b imm : Int) (xs : List Int) (hs : shape5 sD sA sB sI) (himm : in64 imm) (hlen : xs.length ≤ 900000) :
    Ct Tryz.prog 136 [.p 0 0, .agg [.v (.bool sD), .v (.bool sA), .v (.bool sB), .v (.bool sI)], .v (.int .i64 d), .v (.int .i64 a), .v (.int .i64 b), .v (.int .i64 imm)] (wrH xs) G fun sv H' G' =>
      sv = .tup [] ∧ H' = wrH (xs ++ fieldsB sD sA sB sI d a b imm) := by
  have hd := pU_len d
  have ha := pU_len a
  have hb := pU_len b
  obtain ⟨hi1, hi2⟩ := himm
  rcases hs with ⟨rfl, rfl, rfl, rfl⟩ | ⟨rfl, rfl, rfl, rfl⟩ | ⟨rfl, rfl, rfl, rfl⟩ | ⟨rfl, rfl, rfl, rfl⟩ | ⟨rfl, rfl, rfl, rfl⟩
  all_goals
    refine fn_of follows [] Tryz.func136 rfl rfl fun E hE => ?_
    repeat' ((fail_if_success with_reducible refine Stop.mk ?_);(conv=>whnf);with_reducible refine stop ?_)
    all_goals refine Stop.mk ?_
    refine loop_unroll follows [] 5 ?_
    repeat' ((fail_if_success with_reducible refine Stop.mk ?_);(conv=>whnf);first|with_reducible refine br_t ?_|with_reducible refine br_f ?_|refine br_tt (by rfl) ?_|refine br_ff (by rfl) ?_|refine lit_ix (by rfl) (by rfl) ?_|refine ldrow (by rfl) ?_|with_reducible refine stop ?_)
    all_goals refine Stop.mk ?_
  all_goals try
    refine call_fn [0, 1] (wU_fn _ _ _ (by (try simp only [List.length_append]); omega)) rfl ⟨rfl, rfl, trivial⟩ (by decide) ?_
    rintro sv H' G' ⟨rfl, rfl⟩ -
    refine ⟨Nat.le_of_ble_eq_true rfl, ?_⟩
    repeat' ((fail_if_success with_reducible refine Stop.mk ?_);(conv=>whnf);first|with_reducible refine br_t ?_|with_reducible refine br_f ?_|refine br_tt (by rfl) ?_|refine br_ff (by rfl) ?_|refine lit_ix (by rfl) (by rfl) ?_|refine ldrow (by rfl) ?_|with_reducible refine stop ?_)
    all_goals refine Stop.mk ?_
  all_goals try
    refine call_fn [0, 1] (wU_fn _ _ _ (by (try simp only [List.length_append]); omega)) rfl ⟨rfl, rfl, trivial⟩ (by decide) ?_
    rintro sv H' G' ⟨rfl, rfl⟩ -
    refine ⟨Nat.le_of_ble_eq_true rfl, ?_⟩
    repeat' ((fail_if_success with_reducible refine Stop.mk ?_);(conv=>whnf);first|with_reducible refine br_t ?_|with_reducible refine br_f ?_|refine br_tt (by rfl) ?_|refine br_ff (by rfl) ?_|refine lit_ix (by rfl) (by rfl) ?_|refine ldrow (by rfl) ?_|with_reducible refine stop ?_)
    all_goals refine Stop.mk ?_
  all_goals try
    refine call_fn [0, 1] (wU_fn _ _ _ (by (try simp only [List.length_append]); omega)) rfl ⟨rfl, rfl, trivial⟩ (by decide) ?_
    rintro sv H' G' ⟨rfl, rfl⟩ -
    refine ⟨Nat.le_of_ble_eq_true rfl, ?_⟩
    repeat' ((fail_if_success with_reducible refine Stop.mk ?_);(conv=>whnf);first|with_reducible refine br_f ?_|refine br_ff (by rfl) ?_|with_reducible refine stop ?_)
    all_goals refine Stop.mk ?_
  all_goals try
    refine call_fn [0, 1] (wint_fn _ imm _ hi1 hi2 (by (try simp only [List.length_append]); omega)) rfl ⟨rfl, rfl, trivial⟩ (by decide) ?_
    rintro sv H' G' ⟨rfl, rfl⟩ -
    refine ⟨Nat.le_of_ble_eq_true rfl, ?_⟩
    repeat' ((fail_if_success with_reducible refine Stop.mk ?_);(conv=>whnf);with_reducible refine stop ?_)
    all_goals refine Stop.mk ?_
  all_goals
    refine fin_id hE 2 rfl rfl rfl rfl ⟨rfl, (show wrH _ = wrH _ from congrArg wrH ?_)⟩
    simp [fieldsB]
def putInsB (i : Ins) : List Int := IntKind.u8.wrap i.op :: fieldsB (decide (uD i.op)) (decide (uA i.op)) (decide (uB i.op)) (decide (i.op = 1)) i.d i.a i.b i.imm
def putMacB (i : Mac) : List Int := IntKind.u8.wrap i.op :: (fieldsB (decide (uD i.op)) (decide (uA i.op)) (decide (uB i.op)) (decide (i.op = 1)) i.d i.a i.b i.imm ++ (if i.op = 18 then pU i.dst ++ pU i.src else []))
def putTrmB (t : Trm) : List Int := IntKind.u8.wrap t.kind :: ((if t.kind ≠ 1 then pU t.a else []) ++ (if t.kind ≠ 3 then pU t.to_ else []) ++ (if t.kind = 2 then pU t.els else []))
theorem putInsB_len (i : Ins) : 1 ≤ (putInsB i).length ∧ (putInsB i).length ≤ 41 := by
  have := fieldsB_len (decide (uD i.op)) (decide (uA i.op)) (decide (uB i.op)) (decide (i.op = 1)) i.d i.a i.b i.imm
  simp only [putInsB, List.length_cons]; omega
theorem putMacB_len (i : Mac) : 1 ≤ (putMacB i).length ∧ (putMacB i).length ≤ 61 := by
  have := fieldsB_len (decide (uD i.op)) (decide (uA i.op)) (decide (uB i.op)) (decide (i.op = 1)) i.d i.a i.b i.imm
  have := pU_len i.dst
  have := pU_len i.src
  simp only [putMacB, List.length_cons, List.length_append]
  split <;> (try simp only [List.length_append, List.length_nil]) <;> omega
theorem putTrmB_len (t : Trm) : 1 ≤ (putTrmB t).length ∧ (putTrmB t).length ≤ 31 := by
  have := pU_len t.a
  have := pU_len t.to_
  have := pU_len t.els
  simp only [putTrmB, List.length_cons, List.length_append]
  (repeat' split) <;> (try simp only [List.length_nil]) <;> omega
set_option maxHeartbeats 8000000 in
theorem putInstr_fn (G : Gh) (i : Ins) (xs : List Int) (hi : i.ok) (hlen : xs.length ≤ 800000) :
    Ct Tryz.prog 93 [.p 0 0, i.sv] (wrH xs) G fun sv H' G' => sv = .tup [] ∧ H' = wrH (xs ++ putInsB i) := by
  obtain ⟨hi1, hi2, hi3, hi4, hi5⟩ := hi
  refine fn_of follows [] Tryz.func93 rfl rfl fun E hE => ?_
  repeat' ((fail_if_success with_reducible refine Stop.mk ?_);(conv=>whnf);with_reducible refine stop ?_)
  all_goals refine Stop.mk ?_
  refine call_fn [] (of_fn _ i.op) rfl trivial (by decide) ?_
  rintro sv H' G' ⟨rfl, rfl, rfl⟩ -
  refine ⟨Nat.le_of_ble_eq_true rfl, ?_⟩
  repeat' ((fail_if_success with_reducible refine Stop.mk ?_);(conv=>whnf);with_reducible refine stop ?_)
  all_goals refine Stop.mk ?_
  refine call_fn [0, 1] (wbyte_fn _ (IntKind.u8.wrap i.op) xs (by omega)) rfl ⟨rfl, rfl, trivial⟩ (by decide) ?_
  rintro sv H' G' ⟨rfl, rfl⟩ -
  refine ⟨Nat.le_of_ble_eq_true rfl, ?_⟩
  repeat' ((fail_if_success with_reducible refine Stop.mk ?_);(conv=>whnf);with_reducible refine stop ?_)
  all_goals refine Stop.mk ?_
  refine call_fn [0, 1] (fields_fn _ (decide (uD i.op)) (decide (uA i.op)) (decide (uB i.op)) (decide (i.op = 1)) i.d i.a i.b i.imm _ (shape_of i.op) hi5 (by simp only [List.length_append, List.length_cons, List.length_nil]; omega)) rfl ⟨rfl, rfl, trivial⟩ (by decide) ?_
  rintro sv H' G' ⟨rfl, rfl⟩ -
  refine ⟨Nat.le_of_ble_eq_true rfl, ?_⟩
  repeat' ((fail_if_success with_reducible refine Stop.mk ?_);(conv=>whnf);with_reducible refine stop ?_)
  all_goals refine Stop.mk ?_
  refine fin_id hE 2 rfl rfl rfl rfl ⟨rfl, (show wrH _ = wrH _ from congrArg wrH ?_)⟩
  simp [putInsB]
set_option maxHeartbeats 8000000 in
theorem putMach_fn (G : Gh) (i : Mac) (xs : List Int) (hi : i.ok) (hlen : xs.length ≤ 800000) :
    Ct Tryz.prog 95 [.p 0 0, i.sv] (wrH xs) G fun sv H' G' => sv = .tup [] ∧ H' = wrH (xs ++ putMacB i) := by
  obtain ⟨hi1, hi2, hi3, hi4, hi5, hi6, hi7⟩ := hi
  refine fn_of follows [] Tryz.func95 rfl rfl fun E hE => ?_
  have hfl := fieldsB_len (decide (uD i.op)) (decide (uA i.op)) (decide (uB i.op)) (decide (i.op = 1)) i.d i.a i.b i.imm
  have hpd := pU_len i.dst
  repeat' ((fail_if_success with_reducible refine Stop.mk ?_);(conv=>whnf);with_reducible refine stop ?_)
  all_goals refine Stop.mk ?_
  refine call_fn [] (of_fn _ i.op) rfl trivial (by decide) ?_
  rintro sv H' G' ⟨rfl, rfl, rfl⟩ -
  refine ⟨Nat.le_of_ble_eq_true rfl, ?_⟩
  repeat' ((fail_if_success with_reducible refine Stop.mk ?_);(conv=>whnf);with_reducible refine stop ?_)
  all_goals refine Stop.mk ?_
  refine call_fn [0, 1] (wbyte_fn _ (IntKind.u8.wrap i.op) xs (by omega)) rfl ⟨rfl, rfl, trivial⟩ (by decide) ?_
  rintro sv H' G' ⟨rfl, rfl⟩ -
  refine ⟨Nat.le_of_ble_eq_true rfl, ?_⟩
  repeat' ((fail_if_success with_reducible refine Stop.mk ?_);(conv=>whnf);with_reducible refine stop ?_)
  all_goals refine Stop.mk ?_
  refine call_fn [0, 1] (fields_fn _ (decide (uD i.op)) (decide (uA i.op)) (decide (uB i.op)) (decide (i.op = 1)) i.d i.a i.b i.imm _ (shape_of i.op) hi5 (by simp only [List.length_append, List.length_cons, List.length_nil]; omega)) rfl ⟨rfl, rfl, trivial⟩ (by decide) ?_
  rintro sv H' G' ⟨rfl, rfl⟩ -
  refine ⟨Nat.le_of_ble_eq_true rfl, ?_⟩
  repeat' ((fail_if_success with_reducible refine Stop.mk ?_);(conv=>whnf);with_reducible first|refine br_e (fun h=>?_) fun h=>?_|refine stop ?_)
  all_goals refine Stop.mk ?_
  all_goals try
    refine call_fn [0, 1] (wU_fn _ i.dst _ (by simp only [List.length_append, List.length_cons, List.length_nil]; omega)) rfl ⟨rfl, rfl, trivial⟩ (by decide) ?_
    rintro sv H' G' ⟨rfl, rfl⟩ -
    refine ⟨Nat.le_of_ble_eq_true rfl, ?_⟩
    repeat' ((fail_if_success with_reducible refine Stop.mk ?_);(conv=>whnf);with_reducible refine stop ?_)
    all_goals refine Stop.mk ?_
    refine call_fn [0, 1] (wU_fn _ i.src _ (by simp only [List.length_append, List.length_cons, List.length_nil]; omega)) rfl ⟨rfl, rfl, trivial⟩ (by decide) ?_
    rintro sv H' G' ⟨rfl, rfl⟩ -
    refine ⟨Nat.le_of_ble_eq_true rfl, ?_⟩
    repeat' ((fail_if_success with_reducible refine Stop.mk ?_);(conv=>whnf);with_reducible refine stop ?_)
    all_goals refine Stop.mk ?_
  all_goals
    refine fin_id hE 2 rfl rfl rfl rfl ⟨rfl, (show wrH _ = wrH _ from congrArg wrH ?_)⟩
    simp [putMacB, *]
theorem succ_fn (G : Gh) (t : Trm) :
    Ct Tryz.prog 137 [t.sv] [] G fun sv H' G' => ((t.kind = 1 ∧ sv = .s 0 ∧ H' = [.row 3 1 1 [.int .i64 t.to_]]) ∨ (t.kind = 2 ∧ sv = .s 0 ∧ H' = [.row 3 1 2 [.int .i64 t.to_, .int .i64 t.els]]) ∨ (t.kind ≠ 1 ∧ t.kind ≠ 2 ∧ sv = .v (.slice none 0 0) ∧ H' = [])) ∧ G' = G := by
  refine fn_of follows [] Tryz.func137 rfl rfl fun E hE => ?_
  repeat' ((fail_if_success with_reducible refine Stop.mk ?_);(conv=>whnf);with_reducible first|refine br_e (fun h=>?_) fun h=>?_|refine stop ?_)
  all_goals refine Stop.mk ?_
  · exact fin_mk hE [1] (.s 0) [.row 3 1 1 [.int .i64 t.to_]] rfl ⟨rfl, trivial⟩ rfl ⟨.inl ⟨by assumption, rfl, rfl⟩, rfl⟩
  · exact fin_mk hE [1] (.s 0) [.row 3 1 2 [.int .i64 t.to_, .int .i64 t.els]] rfl ⟨rfl, trivial⟩ rfl ⟨.inr (.inl ⟨by assumption, rfl, rfl⟩), rfl⟩
  · exact fin_id hE 0 rfl rfl rfl rfl ⟨.inr (.inr ⟨by assumption, by assumption, rfl, rfl⟩), rfl⟩
set_option maxHeartbeats 8000000 in
theorem putTerm_fn (G : Gh) (t : Trm) (xs : List Int) (hk : 1 ≤ t.kind ∧ t.kind ≤ 3) (hlen : xs.length ≤ 800000) :
    Ct Tryz.prog 94 [.p 0 0, t.sv] (wrH xs) G fun sv H' G' => sv = .tup [] ∧ H' = wrH (xs ++ putTrmB t) := by
  have ha := pU_len t.a
  have hto := pU_len t.to_
  refine fn_of follows [] Tryz.func94 rfl rfl fun E hE => ?_
  repeat' ((fail_if_success with_reducible refine Stop.mk ?_);(conv=>whnf);with_reducible refine stop ?_)
  all_goals refine Stop.mk ?_
  refine call_fn [0, 1] (wbyte_fn _ (IntKind.u8.wrap t.kind) xs (by omega)) rfl ⟨rfl, rfl, trivial⟩ (by decide) ?_
  rintro sv H' G' ⟨rfl, rfl⟩ -
  refine ⟨Nat.le_of_ble_eq_true rfl, ?_⟩
  repeat' ((fail_if_success with_reducible refine Stop.mk ?_);(conv=>whnf);with_reducible first|refine br_n (fun h=>?_) fun h=>?_|refine stop ?_)
  all_goals refine Stop.mk ?_
  all_goals try
    refine call_fn [0, 1] (wU_fn _ t.a _ (by simp only [List.length_append, List.length_cons, List.length_nil]; omega)) rfl ⟨rfl, rfl, trivial⟩ (by decide) ?_
    rintro sv H' G' ⟨rfl, rfl⟩ -
    refine ⟨Nat.le_of_ble_eq_true rfl, ?_⟩
    repeat' ((fail_if_success with_reducible refine Stop.mk ?_);(conv=>whnf);with_reducible refine stop ?_)
    all_goals refine Stop.mk ?_
  all_goals
    refine call_fn [] (succ_fn _ t) rfl trivial (by decide) ?_
    rintro sv H' G' ⟨⟨h1, rfl, rfl⟩ | ⟨h1, rfl, rfl⟩ | ⟨h1, h2, rfl, rfl⟩, rfl⟩ -
  all_goals try (exfalso; omega)
  all_goals
    refine ⟨Nat.zero_le _, ?_⟩
    repeat' ((fail_if_success with_reducible refine Stop.mk ?_);(conv=>whnf);with_reducible refine stop ?_)
    all_goals refine Stop.mk ?_
    refine loop_unroll follows [] 4 ?_
    repeat' ((fail_if_success with_reducible refine Stop.mk ?_);(conv=>whnf);first|refine br_tt (by rfl) ?_|refine br_ff (by rfl) ?_|refine lit_ix (by rfl) (by rfl) ?_|refine ldrow1 ?_|with_reducible refine stop ?_)
    all_goals refine Stop.mk ?_
  all_goals try
    refine call_fn [0, 1] (wU_fn _ t.to_ _ (by simp only [List.length_append, List.length_cons, List.length_nil]; omega)) rfl ⟨rfl, rfl, trivial⟩ (by decide) ?_
    rintro sv H' G' ⟨rfl, rfl⟩ -
    refine ⟨Nat.le_of_ble_eq_true rfl, ?_⟩
    repeat' ((fail_if_success with_reducible refine Stop.mk ?_);(conv=>whnf);first|refine br_tt (by rfl) ?_|refine br_ff (by rfl) ?_|refine lit_ix (by rfl) (by rfl) ?_|refine ldrow1 ?_|with_reducible refine stop ?_)
    all_goals refine Stop.mk ?_
  all_goals try
    refine call_fn [0, 1] (wU_fn _ t.els _ (by simp only [List.length_append, List.length_cons, List.length_nil]; omega)) rfl ⟨rfl, rfl, trivial⟩ (by decide) ?_
    rintro sv H' G' ⟨rfl, rfl⟩ -
    refine ⟨Nat.le_of_ble_eq_true rfl, ?_⟩
    repeat' ((fail_if_success with_reducible refine Stop.mk ?_);(conv=>whnf);first|refine br_ff (by rfl) ?_|with_reducible refine stop ?_)
    all_goals refine Stop.mk ?_
  all_goals
    refine fin_id hE 2 rfl rfl rfl rfl ⟨rfl, (show wrH _ = wrH _ from congrArg wrH ?_)⟩
    first
      | (have h3 : t.kind = 1 := by omega
         simp [putTrmB, h3])
      | (have h3 : t.kind = 2 := by omega
         simp [putTrmB, h3])
      | (have h3 : t.kind = 3 := by omega
         simp [putTrmB, h3])
end Go.Proofs.YtchebkpcgglllaaGreat.Cu

namespace Go.Proofs.YtchebkpcgglllaaGreat.Cu
open Go Go.SX Go.Proofs.YtchebkpcgglllaaGreat.VT
set_option maxRecDepth 100000
set_option linter.unusedVariables false
set_option linter.unusedSimpArgs false

theorem number_fn {G : Gh} {A : Option Addr} {bs : List Int} {c : Nat} {p : Ps} (bound why : Int) (h : CurOK G A c bs p) (hb : 0 ≤ bound ∧ bound ≤ 9223372036854775807) :
    Ct Tryz.prog 117 [.f (.func 64) [.p 0 0] [], .f (.func 63) [.p 0 0] [], .v (.int .i64 bound), .v (.int .i64 why)] [curL A bs c p] G fun sv H' G' =>
      sv = .v (.int .i64 (sNum bound why p).1) ∧ H' = [curL A bs c (sNum bound why p).2] ∧ G' = G := by
  refine fn_of follows [] Tryz.func117 rfl rfl fun E hE => ?_
  repeat' ((fail_if_success with_reducible refine Stop.mk ?_);(conv=>whnf);with_reducible refine stop ?_)
  all_goals refine Stop.mk ?_
  refine call_fn [0] (puint_fn maxU h) rfl ⟨rfl, trivial⟩ (by decide) ?_
  rintro sv H' G' ⟨rfl, rfl, rfl⟩ -
  refine ⟨Nat.le_of_ble_eq_true rfl, ?_⟩
  have hr := sUint_range (most := maxU) h.isb
  have hw : IntKind.u64.wrap bound = bound := u64_in (by omega) (by omega)
  repeat' ((fail_if_success with_reducible refine Stop.mk ?_);(conv=>whnf);with_reducible first|refine br_d (fun h=>?_) fun h=>?_|refine stop ?_)
  all_goals refine Stop.mk ?_
  · have hs : sNum bound why p = (0, sFail why (sUint maxU p).2) := if_pos (by omega)
    refine call_fn [0] (pfail_fn why (p := (sUint maxU p).2)) rfl ⟨rfl, trivial⟩ (by decide) ?_
    rintro sv H' G' ⟨rfl, rfl, rfl⟩ -
    refine ⟨Nat.le_of_ble_eq_true rfl, ?_⟩
    repeat' ((fail_if_success with_reducible refine Stop.mk ?_);(conv=>whnf);with_reducible refine stop ?_)
    all_goals refine Stop.mk ?_
    exact fin_all ⟨by rw [hs], by rw [hs]; rfl, rfl⟩
  · have hs : sNum bound why p = sUint maxU p := if_neg (by omega)
    rw [i64_in (n := (sUint maxU p).1) (by omega) (by omega)]
    exact fin_all ⟨by rw [hs], by rw [hs]; rfl, rfl⟩
def optN (u : Bool) (bound why : Int) (p : Ps) : Int × Ps := match u with
  | true => sNum bound why p
  | false => (0, p)
def optI (u : Bool) (p : Ps) : Int × Ps := match u with
  | true => sInt p
  | false => (0, p)
theorem optN_suf (u : Bool) (bound why : Int) (p : Ps) : (optN u bound why p).2.1 <:+ p.1 := by
  cases u
  · exact List.suffix_refl _
  · exact sNum_suf _ _ _
theorem optI_suf (u : Bool) (p : Ps) : (optI u p).2.1 <:+ p.1 := by
  cases u
  · exact List.suffix_refl _
  · exact sInt_suf _
/-- The first byte, which is to be one of these. -/
def sFirst (good : Int → Bool) (why : Int) (p : Ps) : Int × Ps := ((sByte p).1, if good (sByte p).1 then (sByte p).2 else sFail why (sByte p).2)
theorem sFirst_suf (good : Int → Bool) (why : Int) (p : Ps) : (sFirst good why p).2.1 <:+ p.1 := by
  unfold sFirst; split
  · exact sByte_suf p
  · exact sByte_suf p
def srcOp (op : Int) : Bool := decide (known op ∧ op ≠ 18)
def machOp (op : Int) : Bool := decide (known op ∧ op ≠ 2)
/-- The fields of an instruction. -/
def sFlds (op regs : Int) (p : Ps) : (Int × Int × Int × Int) × Ps :=
  let d := optN (decide (uD op)) regs 9 p
  let a := optN (decide (uA op)) regs 9 d.2
  let b := optN (decide (uB op)) regs 9 a.2
  let i := optI (decide (op = 1)) b.2
  ((d.1, a.1, b.1, i.1), i.2)
theorem sFlds_suf (op regs : Int) (p : Ps) : (sFlds op regs p).2.1 <:+ p.1 := (optI_suf _ _).trans ((optN_suf _ _ _ _).trans ((optN_suf _ _ _ _).trans (optN_suf _ _ _ _)))
def sIns (regs : Int) (p : Ps) : Ins × Ps :=
  let b := sFirst srcOp 8 p
  let f := sFlds b.1 regs b.2
  (if f.2.2 = 0 then ⟨b.1, f.1.1, f.1.2.1, f.1.2.2.1, f.1.2.2.2⟩ else ⟨0, 0, 0, 0, 0⟩, f.2)
theorem sIns_suf (regs : Int) (p : Ps) : (sIns regs p).2.1 <:+ p.1 := (sFlds_suf _ _ _).trans (sFirst_suf _ _ _)
set_option maxHeartbeats 8000000 in
theorem ins_fn {G : Gh} {A : Option Addr} {bs : List Int} {c : Nat} {p : Ps} (regs : Int) (h : CurOK G A c bs p) (hr : 0 ≤ regs ∧ regs ≤ 9223372036854775807) :
    Ct Tryz.prog 70 [.p 0 0, .v (.int .i64 regs)] [curL A bs c p] G fun sv H' G' => sv = (sIns regs p).1.sv ∧ H' = [curL A bs c (sIns regs p).2] ∧ G' = G := by
  have hbr := sByte_range h.isb
  obtain ⟨op, hop⟩ : ∃ op, op = (sByte p).1 := ⟨_, rfl⟩
  obtain ⟨q, hq⟩ : ∃ q, q = (sFirst srcOp 8 p).2 := ⟨_, rfl⟩
  have hc : CurOK G A c bs q := hq ▸ h.next (sFirst_suf _ _ _)
  have hfin : ∀ d a b i r, sFlds op regs q = ((d, a, b, i), r) → sIns regs p = (if r.2 = 0 then ⟨op, d, a, b, i⟩ else ⟨0, 0, 0, 0, 0⟩, r) := by
    intro d a b i r hf
    have : (sFirst srcOp 8 p).1 = op := hop.symm
    simp only [sIns, this, ← hq, hf]
  have hsh := shape_of op
  have hfl : sFlds op regs q = sFlds op regs q := rfl
  conv at hfl => rhs; unfold sFlds
  generalize sFlds op regs q = fl at hfl hfin
  refine fn_of follows [] Tryz.func70 rfl rfl fun E hE => ?_
  repeat' ((fail_if_success with_reducible refine Stop.mk ?_);(conv=>whnf);with_reducible refine stop ?_)
  all_goals refine Stop.mk ?_
  refine call_fn [0] (pbyte_fn h) rfl ⟨rfl, trivial⟩ (by decide) ?_
  rintro sv H' G' ⟨rfl, rfl, rfl⟩ -
  refine ⟨Nat.le_of_ble_eq_true rfl, ?_⟩
  repeat' ((fail_if_success with_reducible refine Stop.mk ?_);(conv=>whnf);with_reducible refine stop ?_)
  all_goals refine Stop.mk ?_
  rw [i64_in (n := (sByte p).1) (by omega) (by omega), ← hop]
  refine call_fn [] (source_fn _ op) rfl trivial (by decide) ?_
  rintro sv H' G' ⟨rfl, rfl, rfl⟩ -
  refine ⟨Nat.le_of_ble_eq_true rfl, ?_⟩
  repeat' ((fail_if_success with_reducible refine Stop.mk ?_);(conv=>whnf);with_reducible first|refine br_not ?_|refine br_d (fun h=>?_) fun h=>?_|refine stop ?_)
  all_goals refine Stop.mk ?_
  all_goals try
    refine call_fn [0] (pfail_fn 8 (p := (sByte p).2)) rfl ⟨rfl, trivial⟩ (by decide) ?_
    rintro sv H' G' ⟨rfl, rfl, rfl⟩ -
    refine ⟨Nat.le_of_ble_eq_true rfl, ?_⟩
    repeat' ((fail_if_success with_reducible refine Stop.mk ?_);(conv=>whnf);with_reducible refine stop ?_)
    all_goals refine Stop.mk ?_
    have hq' : sFail 8 (sByte p).2 = q := by rw [hq]; unfold sFirst srcOp; rw [← hop]; simp only [decide_eq_true_iff]; rw [if_neg (by assumption)]
    rw [hq']
  all_goals try
    have hq' : (sByte p).2 = q := by rw [hq]; unfold sFirst srcOp; rw [← hop]; simp only [decide_eq_true_iff]; rw [if_pos (by assumption)]
    rw [hq']
  all_goals
    refine call_fn [] (of_fn _ op) rfl trivial (by decide) ?_
    rintro sv H' G' ⟨rfl, rfl, rfl⟩ -
    refine ⟨Nat.le_of_ble_eq_true rfl, ?_⟩
    rcases hsh with ⟨e1, e2, e3, e4⟩ | ⟨e1, e2, e3, e4⟩ | ⟨e1, e2, e3, e4⟩ | ⟨e1, e2, e3, e4⟩ | ⟨e1, e2, e3, e4⟩
  all_goals
    rw [e1, e2, e3, e4] at hfl ⊢
    simp only [optN, optI] at hfl
    repeat' ((fail_if_success with_reducible refine Stop.mk ?_);(conv=>whnf);with_reducible first|refine br_t ?_|refine br_f ?_|refine stop ?_)
    all_goals refine Stop.mk ?_
  all_goals try
    refine call_fn [0] (number_fn regs 9 hc hr) rfl ⟨rfl, trivial⟩ (by decide) ?_
    rintro sv H' G' ⟨rfl, rfl, rfl⟩ -
    refine ⟨Nat.le_of_ble_eq_true rfl, ?_⟩
    have hc1 := hc.next (sNum_suf regs 9 _)
    repeat' ((fail_if_success with_reducible refine Stop.mk ?_);(conv=>whnf);with_reducible first|refine br_t ?_|refine br_f ?_|refine stop ?_)
    all_goals refine Stop.mk ?_
  all_goals try
    refine call_fn [0] (number_fn regs 9 hc1 hr) rfl ⟨rfl, trivial⟩ (by decide) ?_
    rintro sv H' G' ⟨rfl, rfl, rfl⟩ -
    refine ⟨Nat.le_of_ble_eq_true rfl, ?_⟩
    have hc2 := hc1.next (sNum_suf regs 9 _)
    repeat' ((fail_if_success with_reducible refine Stop.mk ?_);(conv=>whnf);with_reducible first|refine br_t ?_|refine br_f ?_|refine stop ?_)
    all_goals refine Stop.mk ?_
  all_goals try
    refine call_fn [0] (number_fn regs 9 hc2 hr) rfl ⟨rfl, trivial⟩ (by decide) ?_
    rintro sv H' G' ⟨rfl, rfl, rfl⟩ -
    refine ⟨Nat.le_of_ble_eq_true rfl, ?_⟩
    repeat' ((fail_if_success with_reducible refine Stop.mk ?_);(conv=>whnf);with_reducible first|refine br_f ?_|refine stop ?_)
    all_goals refine Stop.mk ?_
  all_goals try
    refine call_fn [0] (pint_fn hc1) rfl ⟨rfl, trivial⟩ (by decide) ?_
    rintro sv H' G' ⟨rfl, rfl, rfl⟩ -
    refine ⟨Nat.le_of_ble_eq_true rfl, ?_⟩
    repeat' ((fail_if_success with_reducible refine Stop.mk ?_);(conv=>whnf);with_reducible refine stop ?_)
    all_goals refine Stop.mk ?_
  all_goals
    replace hfin := hfin _ _ _ _ _ hfl
    refine call_fn [0] (perr_fn (p := (sIns regs p).2)) rfl ⟨by rw [hfin]; rfl, trivial⟩ (by decide) ?_
    rintro sv H' G' ⟨rfl, rfl, rfl⟩ -
    refine ⟨Nat.le_of_ble_eq_true rfl, ?_⟩
    repeat' ((fail_if_success with_reducible refine Stop.mk ?_);(conv=>whnf);with_reducible first|refine br_n (fun h=>?_) fun h=>?_|refine stop ?_)
    all_goals refine Stop.mk ?_
  all_goals
    refine fin_id hE 1 rfl rfl rfl rfl ⟨?_, ?_, rfl⟩
    · rw [hfin] at h ⊢
      dsimp only at h ⊢
      first
        | (rw [if_pos h]; rfl)
        | (rw [if_neg h]; rfl)
    · rw [hfin]; rfl
/-! ### locations that are read -/
def sPlace (regs slots : Int) (p : Ps) : Int × Ps :=
  let u := sUint maxU p
  (IntKind.i64.wrap u.1, if u.2.2 = 0 ∧ (4611686018427387904 < u.1 ∨ ¬ inRange (IntKind.i64.wrap u.1) regs slots) then sFail 10 u.2 else u.2)
theorem sPlace_suf (regs slots : Int) (p : Ps) : (sPlace regs slots p).2.1 <:+ p.1 := by
  unfold sPlace; simp only; split
  · exact sUint_suf _ _
  · exact sUint_suf _ _
theorem wrap64 (n : Int) : in64 (IntKind.i64.wrap n) := by unfold in64; rw [IntKind.wrap_i64]; omega
theorem place_fn {G : Gh} {A : Option Addr} {bs : List Int} {c : Nat} {p : Ps} (regs slots : Int) (h : CurOK G A c bs p) :
    Ct Tryz.prog 121 [.p 0 0, .v (.int .i64 regs), .v (.int .i64 slots)] [curL A bs c p] G fun sv H' G' => sv = .v (.int .i64 (sPlace regs slots p).1) ∧ H' = [curL A bs c (sPlace regs slots p).2] ∧ G' = G := by
  refine fn_of follows [] Tryz.func121 rfl rfl fun E hE => ?_
  have hpl : ∀ q, (if (sUint maxU p).2.2 = 0 ∧ (4611686018427387904 < (sUint maxU p).1 ∨ ¬ inRange (IntKind.i64.wrap (sUint maxU p).1) regs slots) then sFail 10 (sUint maxU p).2 else (sUint maxU p).2) = q → sPlace regs slots p = (IntKind.i64.wrap (sUint maxU p).1, q) := by
    intro q hq; rw [← hq]; rfl
  repeat' ((fail_if_success with_reducible refine Stop.mk ?_);(conv=>whnf);with_reducible refine stop ?_)
  all_goals refine Stop.mk ?_
  refine call_fn [0] (puint_fn maxU h) rfl ⟨rfl, trivial⟩ (by decide) ?_
  rintro sv H' G' ⟨rfl, rfl, rfl⟩ -
  refine ⟨Nat.le_of_ble_eq_true rfl, ?_⟩
  have hr := sUint_range (most := maxU) h.isb
  have hc := h.next (sUint_suf maxU p)
  repeat' ((fail_if_success with_reducible refine Stop.mk ?_);(conv=>whnf);with_reducible refine stop ?_)
  all_goals refine Stop.mk ?_
  refine call_fn [0] (perr_fn (p := (sUint maxU p).2)) rfl ⟨rfl, trivial⟩ (by decide) ?_
  rintro sv H' G' ⟨rfl, rfl, rfl⟩ -
  refine ⟨Nat.le_of_ble_eq_true rfl, ?_⟩
  repeat' ((fail_if_success with_reducible refine Stop.mk ?_);(conv=>whnf);with_reducible first|refine br_t ?_|refine br_f ?_|refine br_d (fun h=>?_) fun h=>?_|refine br_e (fun h=>?_) fun h=>?_|refine stop ?_)
  all_goals refine Stop.mk ?_
  all_goals try
    refine call_fn [] (inRange_fn _ (IntKind.i64.wrap (sUint maxU p).1) regs slots (wrap64 _)) rfl trivial (by decide) ?_
    rintro sv H' G' ⟨rfl, rfl, rfl⟩ -
    refine ⟨Nat.le_of_ble_eq_true rfl, ?_⟩
    repeat' ((fail_if_success with_reducible refine Stop.mk ?_);(conv=>whnf);with_reducible first|refine br_not ?_|refine br_d (fun h=>?_) fun h=>?_|refine stop ?_)
    all_goals refine Stop.mk ?_
  all_goals try
    refine call_fn [0] (pfail_fn 10 (p := (sUint maxU p).2)) rfl ⟨rfl, trivial⟩ (by decide) ?_
    rintro sv H' G' ⟨rfl, rfl, rfl⟩ -
    refine ⟨Nat.le_of_ble_eq_true rfl, ?_⟩
    repeat' ((fail_if_success with_reducible refine Stop.mk ?_);(conv=>whnf);with_reducible refine stop ?_)
    all_goals refine Stop.mk ?_
  all_goals
    first
      | (have hq := hpl (sFail 10 (sUint maxU p).2) (if_pos ⟨by assumption, .inl (by omega)⟩)
         exact fin_all ⟨by rw [hq], by rw [hq]; rfl, rfl⟩)
      | (have hq := hpl (sFail 10 (sUint maxU p).2) (if_pos ⟨by assumption, .inr (by assumption)⟩)
         exact fin_all ⟨by rw [hq], by rw [hq]; rfl, rfl⟩)
      | (have hq := hpl (sUint maxU p).2 (if_neg (by rintro ⟨h1, h2 | h2⟩ <;> first | exact absurd h1 (by assumption) | exact h2 (by assumption) | omega))
         exact fin_all ⟨by rw [hq], by rw [hq]; rfl, rfl⟩)
end Go.Proofs.YtchebkpcgglllaaGreat.Cu

namespace Go.Proofs.YtchebkpcgglllaaGreat.Cu
open Go Go.SX Go.Proofs.YtchebkpcgglllaaGreat.VT
set_option maxRecDepth 100000
set_option linter.unusedVariables false
set_option linter.unusedSimpArgs false

/-- The two locations of a move. -/
def sMove (regs slots : Int) (p : Ps) : (Int × Int) × Ps :=
  let d := sPlace regs slots p
  let s := sPlace regs slots d.2
  ((d.1, s.1), if isSlot d.1 ∧ isSlot s.1 then sFail 10 s.2 else s.2)
theorem sMove_suf (regs slots : Int) (p : Ps) : (sMove regs slots p).2.1 <:+ p.1 := by
  unfold sMove; simp only; split
  · exact (sPlace_suf _ _ _).trans (sPlace_suf _ _ _)
  · exact (sPlace_suf _ _ _).trans (sPlace_suf _ _ _)
def mac0 : Mac := ⟨0, 0, 0, 0, 0, 0, 0⟩
def sMac (regs slots : Int) (p : Ps) : Mac × Ps :=
  let b := sFirst machOp 8 p
  if b.1 = 18 then
    let m := sMove regs slots b.2
    (if m.2.2 = 0 then ⟨b.1, 0, 0, 0, 0, m.1.1, m.1.2⟩ else mac0, m.2)
  else
    let f := sFlds b.1 regs b.2
    (if f.2.2 = 0 then ⟨b.1, f.1.1, f.1.2.1, f.1.2.2.1, f.1.2.2.2, 0, 0⟩ else mac0, f.2)
theorem sMac_suf (regs slots : Int) (p : Ps) : (sMac regs slots p).2.1 <:+ p.1 := by
  unfold sMac; simp only; split
  · exact (sMove_suf _ _ _).trans (sFirst_suf _ _ _)
  · exact (sFlds_suf _ _ _).trans (sFirst_suf _ _ _)
set_option maxHeartbeats 8000000 in
theorem mach_m {G : Gh} {A : Option Addr} {bs : List Int} {c : Nat} {p : Ps} (regs slots : Int) (h : CurOK G A c bs p) (hr : 0 ≤ regs ∧ regs ≤ 9223372036854775807) (hcase : (sByte p).1 = 18) :
    Ct Tryz.prog 74 [.p 0 0, .v (.int .i64 regs), .v (.int .i64 slots)] [curL A bs c p] G fun sv H' G' => sv = (sMac regs slots p).1.sv ∧ H' = [curL A bs c (sMac regs slots p).2] ∧ G' = G := by
  have hbr := sByte_range h.isb
  obtain ⟨op, hop⟩ : ∃ op, op = (sByte p).1 := ⟨_, rfl⟩
  rw [← hop] at hcase
  obtain ⟨q, hq⟩ : ∃ q, q = (sFirst machOp 8 p).2 := ⟨_, rfl⟩
  have hc : CurOK G A c bs q := hq ▸ h.next (sFirst_suf _ _ _)
  have hop1 : (sFirst machOp 8 p).1 = op := hop.symm
  have hfin : ∀ d s r, sMove regs slots q = ((d, s), r) → sMac regs slots p = (if r.2 = 0 then ⟨op, 0, 0, 0, 0, d, s⟩ else mac0, r) := by
    intro d s r hf
    simp only [sMac, hop1, ← hq, hf, if_pos hcase]
  have hmv : sMove regs slots q = sMove regs slots q := rfl
  conv at hmv => rhs; unfold sMove
  generalize sMove regs slots q = mv at hmv hfin
  dsimp only at hmv
  refine fn_of follows [(14, (.cons 0 [] (.cons 1 [] (.cons 2 [] (.cons 3 [] (.cons 4 [] (.cons 5 [] (.cons 6 [] (.cons 7 [] (.cons 8 [] (.cons 9 [1] .nil)))))))))))] Tryz.func74 rfl rfl fun E hE => ?_
  repeat' ((fail_if_success with_reducible refine Stop.mk ?_);(conv=>whnf);with_reducible refine stop ?_)
  all_goals refine Stop.mk ?_
  refine call_fn [0] (pbyte_fn h) rfl ⟨rfl, trivial⟩ (by decide) ?_
  rintro sv H' G' ⟨rfl, rfl, rfl⟩ -
  refine ⟨Nat.le_of_ble_eq_true rfl, ?_⟩
  repeat' ((fail_if_success with_reducible refine Stop.mk ?_);(conv=>whnf);with_reducible refine stop ?_)
  all_goals refine Stop.mk ?_
  rw [i64_in (n := (sByte p).1) (by omega) (by omega), ← hop]
  refine call_fn [] (machine_fn _ op) rfl trivial (by decide) ?_
  rintro sv H' G' ⟨rfl, rfl, rfl⟩ -
  refine ⟨Nat.le_of_ble_eq_true rfl, ?_⟩
  repeat' ((fail_if_success with_reducible refine Stop.mk ?_);(conv=>whnf);first|with_reducible refine br_not ?_|((with_reducible refine br_d (fun h=>?_) fun h=>?_) <;> try (exfalso; omega))|((with_reducible refine br_e (fun h=>?_) fun h=>?_) <;> try (exfalso; omega))|with_reducible refine stop ?_)
  all_goals refine Stop.mk ?_
  all_goals try
    refine call_fn [0] (pfail_fn 8 (p := (sByte p).2)) rfl ⟨rfl, trivial⟩ (by decide) ?_
    rintro sv H' G' ⟨rfl, rfl, rfl⟩ -
    refine ⟨Nat.le_of_ble_eq_true rfl, ?_⟩
    repeat' ((fail_if_success with_reducible refine Stop.mk ?_);(conv=>whnf);first|((with_reducible refine br_e (fun h=>?_) fun h=>?_) <;> try (exfalso; omega))|with_reducible refine stop ?_)
    all_goals refine Stop.mk ?_
  all_goals try
    have hq' : sFail 8 (sByte p).2 = q := by rw [hq]; unfold sFirst machOp; rw [← hop]; simp only [decide_eq_true_iff]; rw [if_neg (by assumption)]
    rw [hq']
  all_goals try
    have hq' : (sByte p).2 = q := by rw [hq]; unfold sFirst machOp; rw [← hop]; simp only [decide_eq_true_iff]; rw [if_pos (by assumption)]
    rw [hq']
  all_goals
    refine call_fn [0] (place_fn regs slots hc) rfl ⟨rfl, trivial⟩ (by decide) ?_
    rintro sv H' G' ⟨rfl, rfl, rfl⟩ -
    refine ⟨Nat.le_of_ble_eq_true rfl, ?_⟩
    have hc1 := hc.next (sPlace_suf regs slots q)
    repeat' ((fail_if_success with_reducible refine Stop.mk ?_);(conv=>whnf);with_reducible refine stop ?_)
    all_goals refine Stop.mk ?_
    refine call_fn [0] (place_fn regs slots hc1) rfl ⟨rfl, trivial⟩ (by decide) ?_
    rintro sv H' G' ⟨rfl, rfl, rfl⟩ -
    refine ⟨Nat.le_of_ble_eq_true rfl, ?_⟩
    repeat' ((fail_if_success with_reducible refine Stop.mk ?_);(conv=>whnf);with_reducible refine stop ?_)
    all_goals refine Stop.mk ?_
    refine call_fn [] (isSlot_fn _ (sPlace regs slots q).1) rfl trivial (by decide) ?_
    rintro sv H' G' ⟨rfl, rfl, rfl⟩ -
    refine ⟨Nat.le_of_ble_eq_true rfl, ?_⟩
    repeat' ((fail_if_success with_reducible refine Stop.mk ?_);(conv=>whnf);with_reducible first|refine br_f ?_|refine br_d (fun h=>?_) fun h=>?_|refine stop ?_)
    all_goals refine Stop.mk ?_
  all_goals try
    refine call_fn [] (isSlot_fn _ (sPlace regs slots (sPlace regs slots q).2).1) rfl trivial (by decide) ?_
    rintro sv H' G' ⟨rfl, rfl, rfl⟩ -
    refine ⟨Nat.le_of_ble_eq_true rfl, ?_⟩
    repeat' ((fail_if_success with_reducible refine Stop.mk ?_);(conv=>whnf);with_reducible first|refine br_d (fun h=>?_) fun h=>?_|refine stop ?_)
    all_goals refine Stop.mk ?_
  all_goals try
    refine call_fn [0] (pfail_fn 10 (p := (sPlace regs slots (sPlace regs slots q).2).2)) rfl ⟨rfl, trivial⟩ (by decide) ?_
    rintro sv H' G' ⟨rfl, rfl, rfl⟩ -
    refine ⟨Nat.le_of_ble_eq_true rfl, ?_⟩
    repeat' ((fail_if_success with_reducible refine Stop.mk ?_);(conv=>whnf);with_reducible refine stop ?_)
    all_goals refine Stop.mk ?_
  all_goals
    first
      | (rw [if_pos ⟨by assumption, by assumption⟩] at hmv
         replace hfin := hfin _ _ _ hmv)
      | (rw [if_neg (by rintro ⟨h1, h2⟩; first | exact absurd h1 (by assumption) | exact absurd h2 (by assumption))] at hmv
         replace hfin := hfin _ _ _ hmv)
  all_goals
    refine call_fn [0] (perr_fn (p := (sMac regs slots p).2)) rfl ⟨by rw [hfin]; rfl, trivial⟩ (by decide) ?_
    rintro sv H' G' ⟨rfl, rfl, rfl⟩ -
    refine ⟨Nat.le_of_ble_eq_true rfl, ?_⟩
    repeat' ((fail_if_success with_reducible refine Stop.mk ?_);(conv=>whnf);with_reducible first|refine br_n (fun h=>?_) fun h=>?_|refine stop ?_)
    all_goals refine Stop.mk ?_
  all_goals
    refine fin_id hE 1 rfl rfl rfl rfl ⟨?_, ?_, rfl⟩
    · rw [hfin] at h ⊢
      dsimp only at h ⊢
      first
        | (rw [if_pos h]; rfl)
        | (rw [if_neg h]; rfl)
    · rw [hfin]; rfl
end Go.Proofs.YtchebkpcgglllaaGreat.Cu
