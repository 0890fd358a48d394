/- Sox: So1, So2 in one text. -/
import Derived.Test.YtchebkpcgglllaaGreatNux
import Derived.Test.YtchebkpcgglllaaGreatSXc
namespace Go.Proofs.YtchebkpcgglllaaGreat.Cu
open Go Go.SX Go.Proofs.YtchebkpcgglllaaGreat.VT
set_option maxRecDepth 100000
set_option linter.unusedVariables false
set_option linter.unusedSimpArgs false
/-- A field: its value, whether it is used, its bound. -/
structure Fld where
  v : Int
  u : Bool
  n : Int
def kFld : Kd Fld where
  sz := 3
  R _ f cs := cs = [.int .i64 f.v, .bool f.u, .int .i64 f.n]
  len h := by rw [h]; rfl
  one h := by
    rw [h]; intro v hv
    simp at hv
    rcases hv with rfl | rfl | rfl <;> rfl
  mono _ h := h
def wOk (l : List Fld) : Bool := l.all fun f => !f.u || decide (0 ≤ f.v ∧ f.v < f.n)
def bOk (l : List Fld) : Bool := l.all fun f => f.u || decide (f.v = 0)
theorem all_takeF {α : Type} (q : α → Bool) (l : List α) (k : Nat) (x : α) (h : l[k]? = some x) : (l.take (k + 1)).all q = ((l.take k).all q && q x) := by
  rw [List.take_add_one, h]; simp
theorem all_no {α : Type} (q : α → Bool) (l : List α) (k : Nat) (x : α) (h : l[k]? = some x) (hq : q x = false) : l.all q = false := by
  rw [List.all_eq_false]
  exact ⟨x, List.mem_of_getElem? h, by rw [hq]; simp⟩
set_option maxHeartbeats 8000000 in
theorem within_fn (G : Gh) (A : Option Addr) (c : Nat) (l : List Fld) (hl : kFld.S G A c l) :
    Ct Tryz.prog 156 [.v (.slice A l.length c)] [] G fun sv H' G' => sv = .v (.bool (wOk l)) ∧ H' = [] ∧ G' = G := by
  refine fn_of follows [] Tryz.func156 rfl rfl fun E hE => ?_
  have hcap := hl.cap
  repeat' ((fail_if_success with_reducible refine Stop.mk ?_);(conv=>whnf);with_reducible refine stop ?_)
  all_goals refine Stop.mk ?_
  refine loop_vars follows [] (α := Nat) (fun k => [(7, .v (.int .i64 k))]) (fun x => []) (fun x => G) (fun k => k ≤ l.length ∧ wOk (l.take k) = true) (fun k => l.length - k) 0
    ⟨Nat.zero_le _, by simp [wOk]⟩ rfl rfl ?_ ?_
  ·
    refine ⟨?_⟩
    (conv => whnf)
    (repeat' (first | exact trivial | exact .inl rfl | exact .inr rfl | refine And.intro ?_ ?_))
  intro k hI
  have hk := hI.1
  have hok := hI.2
  clear hI
  repeat' ((fail_if_success with_reducible refine Stop.mk ?_);(conv=>whnf);with_reducible first|refine br_d (fun h=>?_) fun h=>?_|refine stop ?_)
  all_goals refine Stop.mk ?_
  ·
    obtain ⟨_, hs_, hat_⟩ := hl.at (sz := 3) rfl
    refine ⟨⟨by omega, by omega⟩, _, hs_, fun ad had hadr => ?_⟩
    obtain ⟨f, cells, hf, hRf, hGf⟩ := hat_ k (by omega) ad (by first | exact had | (rw [Int.toNat_natCast] at had; exact had))
    clear had hat_ hs_
    have hw2 : IntKind.i64.wrap ((k : Int) + 1) = ((k + 1 : Nat) : Int) := by rw [i64_in (by omega) (by omega)]; simp
    obtain ⟨v, u, n⟩ := f
    have hRf' : cells = [.int .i64 v, .bool u, .int .i64 n] := hRf
    subst hRf'
    have htk := all_takeF (fun f : Fld => !f.u || decide (0 ≤ f.v ∧ f.v < f.n)) l k ⟨v, u, n⟩ hf
    have hno := all_no (fun f : Fld => !f.u || decide (0 ≤ f.v ∧ f.v < f.n)) l k ⟨v, u, n⟩ hf
    cases u
    all_goals
      repeat' ((fail_if_success with_reducible refine Stop.mk ?_);(conv=>whnf);with_reducible refine stop ?_)
      all_goals refine Stop.mk ?_
      refine ⟨_, rfl, hGf, ?_⟩
      repeat' ((fail_if_success with_reducible refine Stop.mk ?_);(conv=>whnf);with_reducible first|refine br_t ?_|refine br_f ?_|refine br_d (fun h=>?_) fun h=>?_|refine stop ?_)
      all_goals refine Stop.mk ?_
    all_goals try
      refine fin_id hE 0 rfl rfl rfl rfl ⟨congrArg (fun b => SV.v (.bool b)) ?_, rfl, rfl⟩
      refine (hno ?_).symm
      simp
      try omega
    all_goals
      rw [hw2]
      refine tell_gc hE [] rfl rfl ?_
      (conv => whnf)
      refine tell_here ⟨k + 1, ⟨by omega, ?_⟩, by show l.length - (k + 1) < l.length - k; omega, rfl, rfl, ?_⟩
      · show wOk (l.take (k + 1)) = true
        unfold wOk at hok ⊢
        rw [htk, hok]
        simp
        try omega
      ·
        refine ⟨?_⟩
        (conv => whnf)
        (repeat' (first | exact trivial | exact .inl rfl | exact .inr rfl | refine And.intro ?_ ?_))
  · have hkl : k = l.length := by omega
    subst hkl
    rw [List.take_length] at hok
    exact fin_id hE 0 rfl rfl rfl rfl ⟨by rw [hok], rfl, rfl⟩
set_option maxHeartbeats 8000000 in
theorem blank_fn (G : Gh) (A : Option Addr) (c : Nat) (l : List Fld) (hl : kFld.S G A c l) :
    Ct Tryz.prog 157 [.v (.slice A l.length c)] [] G fun sv H' G' => sv = .v (.bool (bOk l)) ∧ H' = [] ∧ G' = G := by
  refine fn_of follows [] Tryz.func157 rfl rfl fun E hE => ?_
  have hcap := hl.cap
  repeat' ((fail_if_success with_reducible refine Stop.mk ?_);(conv=>whnf);with_reducible refine stop ?_)
  all_goals refine Stop.mk ?_
  refine loop_vars follows [] (α := Nat) (fun k => [(7, .v (.int .i64 k))]) (fun x => []) (fun x => G) (fun k => k ≤ l.length ∧ bOk (l.take k) = true) (fun k => l.length - k) 0
    ⟨Nat.zero_le _, by simp [bOk]⟩ rfl rfl ?_ ?_
  ·
    refine ⟨?_⟩
    (conv => whnf)
    (repeat' (first | exact trivial | exact .inl rfl | exact .inr rfl | refine And.intro ?_ ?_))
  intro k hI
  have hk := hI.1
  have hok := hI.2
  clear hI
  repeat' ((fail_if_success with_reducible refine Stop.mk ?_);(conv=>whnf);with_reducible first|refine br_d (fun h=>?_) fun h=>?_|refine stop ?_)
  all_goals refine Stop.mk ?_
  ·
    obtain ⟨_, hs_, hat_⟩ := hl.at (sz := 3) rfl
    refine ⟨⟨by omega, by omega⟩, _, hs_, fun ad had hadr => ?_⟩
    obtain ⟨f, cells, hf, hRf, hGf⟩ := hat_ k (by omega) ad (by first | exact had | (rw [Int.toNat_natCast] at had; exact had))
    clear had hat_ hs_
    have hw2 : IntKind.i64.wrap ((k : Int) + 1) = ((k + 1 : Nat) : Int) := by rw [i64_in (by omega) (by omega)]; simp
    obtain ⟨v, u, n⟩ := f
    have hRf' : cells = [.int .i64 v, .bool u, .int .i64 n] := hRf
    subst hRf'
    have htk := all_takeF (fun f : Fld => f.u || decide (f.v = 0)) l k ⟨v, u, n⟩ hf
    have hno := all_no (fun f : Fld => f.u || decide (f.v = 0)) l k ⟨v, u, n⟩ hf
    cases u
    all_goals
      repeat' ((fail_if_success with_reducible refine Stop.mk ?_);(conv=>whnf);with_reducible refine stop ?_)
      all_goals refine Stop.mk ?_
      refine ⟨_, rfl, hGf, ?_⟩
      repeat' ((fail_if_success with_reducible refine Stop.mk ?_);(conv=>whnf);with_reducible first|refine br_t ?_|refine br_f ?_|refine br_not ?_|refine br_n (fun h=>?_) fun h=>?_|refine stop ?_)
      all_goals refine Stop.mk ?_
    all_goals try
      refine fin_id hE 0 rfl rfl rfl rfl ⟨congrArg (fun b => SV.v (.bool b)) ?_, rfl, rfl⟩
      refine (hno ?_).symm
      simp
      try omega
    all_goals
      rw [hw2]
      refine tell_gc hE [] rfl rfl ?_
      (conv => whnf)
      refine tell_here ⟨k + 1, ⟨by omega, ?_⟩, by show l.length - (k + 1) < l.length - k; omega, rfl, rfl, ?_⟩
      · show bOk (l.take (k + 1)) = true
        unfold bOk at hok ⊢
        rw [htk, hok]
        simp
        try omega
      ·
        refine ⟨?_⟩
        (conv => whnf)
        (repeat' (first | exact trivial | exact .inl rfl | exact .inr rfl | refine And.intro ?_ ?_))
  · have hkl : k = l.length := by omega
    subst hkl
    rw [List.take_length] at hok
    exact fin_id hE 0 rfl rfl rfl rfl ⟨by rw [hok], rfl, rfl⟩
/-! ### instructions and terminators -/
def fI (regs : Int) (i : Ins) : List Fld := [⟨i.d, decide (uD i.op), regs⟩, ⟨i.a, decide (uA i.op), regs⟩, ⟨i.b, decide (uB i.op), regs⟩]
/-- The error of an instruction. -/
def eIns (regs : Int) (i : Ins) : Int := if known i.op ∧ i.op ≠ 18 then (if wOk (fI regs i) = true then (if bOk (fI regs i) = true ∧ (i.op = 1 ∨ i.imm = 0) then 0 else 12) else 9) else 8
def fA (regs : Int) (t : Trm) : Fld := ⟨t.a, t.kind != 1, regs⟩
def fT (blocks : Int) (t : Trm) : Fld := ⟨t.to_, t.kind != 3, blocks⟩
def fE (blocks : Int) (t : Trm) : Fld := ⟨t.els, t.kind == 2, blocks⟩
/-- The error of a terminator. -/
def eTrm (regs blocks : Int) (t : Trm) : Int := if t.kind < 1 ∨ t.kind > 3 then 16 else if wOk [fA regs t] = true then (if wOk [fT blocks t, fE blocks t] = true then (if bOk [fA regs t, fT blocks t, fE blocks t] = true then 0 else 12) else 11) else 9
theorem fI_S {G : Gh} {A : Option Addr} {c sz : Nat} {regs : Int} {i : Ins} (hsz : sz = 3) (h : Sl G A 3 c sz [.int .i64 i.d, .bool (decide (uD i.op)), .int .i64 regs, .int .i64 i.a, .bool (decide (uA i.op)), .int .i64 regs, .int .i64 i.b, .bool (decide (uB i.op)), .int .i64 regs]) : kFld.S G A c (fI regs i) :=
  Kd.S.of h rfl hsz ⟨[[.int .i64 i.d, .bool (decide (uD i.op)), .int .i64 regs], [.int .i64 i.a, .bool (decide (uA i.op)), .int .i64 regs], [.int .i64 i.b, .bool (decide (uB i.op)), .int .i64 regs]], ⟨rfl, rfl, rfl, trivial⟩, rfl⟩
set_option maxHeartbeats 8000000 in
theorem srcInstr_fn (G : Gh) (i : Ins) (regs : Int) :
    Ct Tryz.prog 150 [i.sv, .v (.int .i64 regs)] [] G fun sv H' G' => sv = .v (.int .i64 (eIns regs i)) ∧ H' = [] := by
  have he : eIns regs i = if known i.op ∧ i.op ≠ 18 then (if wOk (fI regs i) = true then (if bOk (fI regs i) = true ∧ (i.op = 1 ∨ i.imm = 0) then 0 else 12) else 9) else 8 := rfl
  refine fn_of follows [] Tryz.func150 rfl rfl fun E hE => ?_
  repeat' ((fail_if_success with_reducible refine Stop.mk ?_);(conv=>whnf);with_reducible refine stop ?_)
  all_goals refine Stop.mk ?_
  refine call_fn [] (of_fn _ i.op) rfl trivial (by decide) ?_
  rintro sv H' G' ⟨rfl, rfl, rfl⟩ -
  refine ⟨Nat.le_of_ble_eq_true rfl, ?_⟩
  repeat' ((fail_if_success with_reducible refine Stop.mk ?_);(conv=>whnf);with_reducible refine stop ?_)
  all_goals refine Stop.mk ?_
  refine call_fn [] (source_fn _ i.op) rfl trivial (by decide) ?_
  rintro sv H' G' ⟨rfl, rfl, rfl⟩ -
  refine ⟨Nat.le_of_ble_eq_true rfl, ?_⟩
  repeat' ((fail_if_success with_reducible refine Stop.mk ?_);(conv=>whnf);with_reducible first|refine br_not ?_|refine br_d (fun h=>?_) fun h=>?_|refine stop ?_)
  all_goals refine Stop.mk ?_
  all_goals try
    refine fin_id hE 0 rfl rfl rfl rfl ⟨congrArg (fun e => SV.v (.int .i64 e)) ?_, rfl⟩
    rw [he, if_neg (by assumption)]
  rw [if_pos (by assumption)] at he
  refine call_fz 2 rfl (by simp [Value.oneCell']) (enters_of Tryz.func156 rfl rfl) fun Ax cx Gx hgx hsx => ?_
  (conv => whnf)
  have hl := fI_S rfl hsx
  clear hgx hsx
  refine call_fn [] (within_fn _ Ax cx (fI regs i) hl) rfl trivial (by decide) ?_
  rintro sv H' G' ⟨rfl, rfl, rfl⟩ -
  refine ⟨Nat.le_of_ble_eq_true rfl, ?_⟩
  cases hwk : wOk (fI regs i)
  all_goals rw [hwk] at he
  all_goals
    repeat' ((fail_if_success with_reducible refine Stop.mk ?_);(conv=>whnf);with_reducible first|refine br_t ?_|refine br_f ?_|refine br_not ?_|refine stop ?_)
    all_goals refine Stop.mk ?_
  all_goals try
    refine fin_id hE 0 rfl rfl rfl rfl ⟨congrArg (fun e => SV.v (.int .i64 e)) ?_, rfl⟩
    rw [he, if_neg (by decide)]
  rw [if_pos rfl] at he
  refine call_fn [] (blank_fn _ Ax cx (fI regs i) hl) rfl trivial (by decide) ?_
  rintro sv H' G' ⟨rfl, rfl, rfl⟩ -
  refine ⟨Nat.le_of_ble_eq_true rfl, ?_⟩
  cases hbk : bOk (fI regs i)
  all_goals rw [hbk] at he
  all_goals
    repeat' ((fail_if_success with_reducible refine Stop.mk ?_);(conv=>whnf);with_reducible first|refine br_t ?_|refine br_f ?_|refine br_not ?_|refine br_d (fun h=>?_) fun h=>?_|refine br_n (fun h=>?_) fun h=>?_|refine stop ?_)
    all_goals refine Stop.mk ?_
  all_goals
    refine fin_id hE 0 rfl rfl rfl rfl ⟨congrArg (fun e => SV.v (.int .i64 e)) ?_, rfl⟩
    simp only [true_and, Bool.false_eq_true, false_and, if_false, bne_iff_ne, ne_eq, decide_eq_true_eq, decide_eq_false_iff_not] at *
    rw [he]
    try split
  all_goals try omega
set_option maxHeartbeats 8000000 in
theorem srcTerm_fn (G : Gh) (t : Trm) (regs blocks : Int) :
    Ct Tryz.prog 151 [t.sv, .v (.int .i64 regs), .v (.int .i64 blocks)] [] G fun sv H' G' => sv = .v (.int .i64 (eTrm regs blocks t)) ∧ H' = [] := by
  have he : eTrm regs blocks t = if t.kind < 1 ∨ t.kind > 3 then 16 else if wOk [fA regs t] = true then (if wOk [fT blocks t, fE blocks t] = true then (if bOk [fA regs t, fT blocks t, fE blocks t] = true then 0 else 12) else 11) else 9 := rfl
  refine fn_of follows [] Tryz.func151 rfl rfl fun E hE => ?_
  repeat' ((fail_if_success with_reducible refine Stop.mk ?_);(conv=>whnf);with_reducible first|refine br_t ?_|refine br_d (fun h=>?_) fun h=>?_|refine stop ?_)
  all_goals refine Stop.mk ?_
  all_goals try
    refine fin_id hE 0 rfl rfl rfl rfl ⟨congrArg (fun e => SV.v (.int .i64 e)) ?_, rfl⟩
    rw [he, if_pos (by omega)]
  rw [if_neg (by omega)] at he
  refine call_fz 4 rfl (by simp [Value.oneCell']) (enters_of Tryz.func156 rfl rfl) fun Ax cx Gx hgx hsx => ?_
  (conv => whnf)
  have hl : kFld.S Gx Ax cx [fA regs t] := Kd.S.of hsx rfl rfl ⟨[[.int .i64 t.a, .bool (t.kind != 1), .int .i64 regs]], ⟨rfl, trivial⟩, rfl⟩
  clear hgx hsx
  refine call_fn [] (within_fn _ Ax cx [fA regs t] hl) rfl trivial (by decide) ?_
  rintro sv H' G' ⟨rfl, rfl, rfl⟩ -
  refine ⟨Nat.le_of_ble_eq_true rfl, ?_⟩
  cases hwk : wOk [fA regs t]
  all_goals rw [hwk] at he
  all_goals
    repeat' ((fail_if_success with_reducible refine Stop.mk ?_);(conv=>whnf);with_reducible first|refine br_t ?_|refine br_f ?_|refine br_not ?_|refine stop ?_)
    all_goals refine Stop.mk ?_
  all_goals try
    refine fin_id hE 0 rfl rfl rfl rfl ⟨congrArg (fun e => SV.v (.int .i64 e)) ?_, rfl⟩
    rw [he, if_neg (by decide)]
  rw [if_pos rfl] at he
  clear hl
  refine call_fz 5 rfl (by simp [Value.oneCell']) (enters_of Tryz.func156 rfl rfl) fun Ay cy Gy hgy hsy => ?_
  (conv => whnf)
  have hl : kFld.S Gy Ay cy [fT blocks t, fE blocks t] := Kd.S.of hsy rfl rfl ⟨[[.int .i64 t.to_, .bool (t.kind != 3), .int .i64 blocks], [.int .i64 t.els, .bool (t.kind == 2), .int .i64 blocks]], ⟨rfl, rfl, trivial⟩, rfl⟩
  clear hgy hsy
  refine call_fn [] (within_fn _ Ay cy [fT blocks t, fE blocks t] hl) rfl trivial (by decide) ?_
  rintro sv H' G' ⟨rfl, rfl, rfl⟩ -
  refine ⟨Nat.le_of_ble_eq_true rfl, ?_⟩
  cases hwk2 : wOk [fT blocks t, fE blocks t]
  all_goals rw [hwk2] at he
  all_goals
    repeat' ((fail_if_success with_reducible refine Stop.mk ?_);(conv=>whnf);with_reducible first|refine br_t ?_|refine br_f ?_|refine br_not ?_|refine stop ?_)
    all_goals refine Stop.mk ?_
  all_goals try
    refine fin_id hE 0 rfl rfl rfl rfl ⟨congrArg (fun e => SV.v (.int .i64 e)) ?_, rfl⟩
    rw [he, if_neg (by decide)]
  rw [if_pos rfl] at he
  clear hl
  refine call_fz 6 rfl (by simp [Value.oneCell']) (enters_of Tryz.func157 rfl rfl) fun Az cz Gz hgz hsz => ?_
  (conv => whnf)
  have hl : kFld.S Gz Az cz [fA regs t, fT blocks t, fE blocks t] := Kd.S.of hsz rfl rfl ⟨[[.int .i64 t.a, .bool (t.kind != 1), .int .i64 regs], [.int .i64 t.to_, .bool (t.kind != 3), .int .i64 blocks], [.int .i64 t.els, .bool (t.kind == 2), .int .i64 blocks]], ⟨rfl, rfl, rfl, trivial⟩, rfl⟩
  clear hgz hsz
  refine call_fn [] (blank_fn _ Az cz [fA regs t, fT blocks t, fE blocks t] hl) rfl trivial (by decide) ?_
  rintro sv H' G' ⟨rfl, rfl, rfl⟩ -
  refine ⟨Nat.le_of_ble_eq_true rfl, ?_⟩
  cases hbk : bOk [fA regs t, fT blocks t, fE blocks t]
  all_goals rw [hbk] at he
  all_goals
    repeat' ((fail_if_success with_reducible refine Stop.mk ?_);(conv=>whnf);with_reducible first|refine br_t ?_|refine br_f ?_|refine br_not ?_|refine stop ?_)
    all_goals refine Stop.mk ?_
  all_goals
    refine fin_id hE 0 rfl rfl rfl rfl ⟨congrArg (fun e => SV.v (.int .i64 e)) ?_, rfl⟩
    rw [he]
    rfl
end Go.Proofs.YtchebkpcgglllaaGreat.Cu

namespace Go.Proofs.YtchebkpcgglllaaGreat.Cu
open Go Go.SX Go.Proofs.YtchebkpcgglllaaGreat.VT
set_option maxRecDepth 100000
set_option linter.unusedVariables false
set_option linter.unusedSimpArgs false
/-- The first error among n. -/
def firstN (e : Nat → Int) : Nat → Int
  | 0 => 0
  | n + 1 => if firstN e n ≠ 0 then firstN e n else e n
theorem firstN_zero (e : Nat → Int) : ∀ n, (∀ j, j < n → e j = 0) → firstN e n = 0
  | 0, _ => rfl
  | n + 1, h => by
    have h1 := firstN_zero e n fun j hj => h j (by omega)
    unfold firstN
    rw [h1, if_neg (by simp)]
    exact h n (by omega)
theorem firstN_at (e : Nat → Int) (k : Nat) (hk : e k ≠ 0) (h0 : ∀ j, j < k → e j = 0) : ∀ n, k < n → firstN e n = e k
  | 0, h => by omega
  | n + 1, h => by
    unfold firstN
    by_cases hkn : k = n
    · subst hkn
      rw [firstN_zero e k h0, if_neg (by simp)]
    · have h1 := firstN_at e k hk h0 n (by omega)
      rw [h1, if_pos hk]
theorem firstN_iff (e : Nat → Int) : ∀ n, firstN e n = 0 ↔ ∀ j, j < n → e j = 0
  | 0 => by simp [firstN]
  | n + 1 => by
    have ih := firstN_iff e n
    unfold firstN
    constructor
    · intro h j hj
      by_cases h0 : firstN e n = 0
      · rw [if_neg (by simp [h0])] at h
        by_cases hjn : j = n
        · rw [hjn]; exact h
        · exact ih.1 h0 j (by omega)
      · rw [if_pos h0] at h
        exact absurd h h0
    · intro h
      have h1 := ih.2 fun j hj => h j (by omega)
      rw [h1, if_neg (by simp)]
      exact h n (by omega)
def eAt {α : Type} (e : α → Int) (l : List α) (k : Nat) : Int := match l[k]? with
  | some x => e x
  | none => 0
theorem eAt_is {α : Type} {e : α → Int} {l : List α} {k : Nat} {x : α} (h : l[k]? = some x) : eAt e l k = e x := by unfold eAt; rw [h]
def first0 {α : Type} (e : α → Int) (l : List α) : Int := firstN (eAt e l) l.length
theorem first0_iff {α : Type} (e : α → Int) (l : List α) : first0 e l = 0 ↔ ∀ x ∈ l, e x = 0 := by
  unfold first0
  rw [firstN_iff]
  constructor
  · intro h x hx
    obtain ⟨k, hk⟩ := List.getElem?_of_mem hx
    rw [← eAt_is (e := e) hk]
    exact h k (List.getElem?_eq_some_iff.1 hk).1
  · intro h j hj
    rw [eAt_is (e := e) (List.getElem?_eq_getElem hj)]
    exact h _ (List.getElem_mem hj)
/-- A machine's instruction: its error. -/
def Mac.ins' (m : Mac) : Ins := ⟨m.op, m.d, m.a, m.b, m.imm⟩
def eMac (regs slots : Int) (i : Mac) : Int :=
  if known i.op ∧ i.op ≠ 2 then
    (if i.op = 18 then (if inRange i.dst regs slots ∧ inRange i.src regs slots ∧ ¬ (i.dst % 2 = 1 ∧ i.src % 2 = 1) then (if i.d = 0 ∧ i.a = 0 ∧ i.b = 0 ∧ i.imm = 0 then 0 else 12) else 10)
     else if eIns regs i.ins' ≠ 0 then eIns regs i.ins' else if i.dst = 0 ∧ i.src = 0 then 0 else 12)
  else 8
/-- The error at an instruction of a block. -/
def eMAt (regs slots : Int) (l : List Mac) (k : Nat) : Int := if eAt (eMac regs slots) l k ≠ 0 then eAt (eMac regs slots) l k else if runK l (k + 1) > 64 then 15 else 0
def eMBlk (regs slots n : Int) (b : MBlk) : Int := if firstN (eMAt regs slots b.code) b.code.length ≠ 0 then firstN (eMAt regs slots b.code) b.code.length else eTrm regs n b.term
def eMFn (f : MFn) : Int :=
  if f.args < 0 ∨ f.args > f.slots then 10 else if f.regs < 0 then 9 else if f.slots > 1048576 ∨ f.regs > 1048576 then 6 else if f.blocks.length = 0 then 14
  else if f.blocks.length > 1048576 ∨ totMB f.blocks > 1048576 then 6 else first0 (eMBlk f.regs f.slots f.blocks.length) f.blocks
def eBlk (regs n : Int) (b : Blk) : Int := if first0 (eIns regs) b.code ≠ 0 then first0 (eIns regs) b.code else eTrm regs n b.term
def eFn (f : Fn) : Int :=
  if f.args < 0 ∨ f.args > f.regs then 9 else if f.regs > 1048576 then 6 else if f.blocks.length = 0 then 14
  else if f.blocks.length > 1048576 ∨ totB f.blocks > 1048576 then 6 else first0 (eBlk f.regs f.blocks.length) f.blocks
end Go.Proofs.YtchebkpcgglllaaGreat.Cu
