/- The law's read. -/
import Derived.Test.YtihnbkoeaaepiaaCu7
namespace Go.Proofs.Ytihnbkoeaaepiaa.Cu
open Go Go.SX Go.Proofs.Ytihnbkoeaaepiaa.VT
set_option maxRecDepth 100000
set_option linter.unusedVariables false
set_option linter.unusedSimpArgs false

structure Rd where
  k : Int
  a : Int
  b : Int
  m : Int
def Rd.ok (r : Rd) : Prop := (-9223372036854775808 ≤ r.k ∧ r.k ≤ 9223372036854775807) ∧ (-9223372036854775808 ≤ r.a ∧ r.a ≤ 9223372036854775807) ∧ (-9223372036854775808 ≤ r.b ∧ r.b ≤ 9223372036854775807) ∧ 0 ≤ r.m ∧ r.m < 18446744073709551616
def Rd.vals (r : Rd) : List Value := [.int .i64 r.k, .int .i64 r.a, .int .i64 r.b, .int .u64 r.m]
def Rd.sv (r : Rd) : SV := .agg [.v (.int .i64 r.k), .v (.int .i64 r.a), .v (.int .i64 r.b), .v (.int .u64 r.m)]
structure RdR where
  v : Int
  x : List Int
  at_ : Nat
  e : Int
/-- What a read comes to. -/
def rdS (bs : List Int) (a : Nat) (e : Int) (r : Rd) : RdR :=
  if r.k = 0 then ⟨(cByte bs a e).1, [], (cByte bs a e).2.1, (cByte bs a e).2.2⟩
  else if r.k = 1 then ⟨0, (cBytes bs a e r.a).1, (cBytes bs a e r.a).2.1, (cBytes bs a e r.a).2.2⟩
  else if r.k = 2 then ⟨(cUint bs a e r.m).1, [], (cUint bs a e r.m).2.1, (cUint bs a e r.m).2.2⟩
  else if r.k = 3 then ⟨IntKind.u64.wrap (unzig (cUint bs a e 18446744073709551615).1), [], (cUint bs a e 18446744073709551615).2.1, (cUint bs a e 18446744073709551615).2.2⟩
  else if r.k = 4 then ⟨(cCount bs a e r.a r.b).1, [], (cCount bs a e r.a r.b).2.1, (cCount bs a e r.a r.b).2.2⟩
  else if r.k = 5 then ⟨0, [], a, if leftN bs.length a e > 0 then 2 else e⟩
  else if r.k = 6 then ⟨0, [], a, failE e r.a⟩
  else ⟨0, [], a, e⟩
theorem cByte_range {bs : List Int} (hb : isB bs) (a : Nat) (e : Int) (ha : a ≤ bs.length) : 0 ≤ (cByte bs a e).1 ∧ (cByte bs a e).1 ≤ 255 := by
  unfold cByte
  split
  · simp
  · split
    · simp
    · exact getD_isB hb (by omega)
theorem cCount_range {bs : List Int} (hb : isB bs) (a : Nat) (e most size : Int) (hm : most ≤ 9223372036854775807) : 0 ≤ (cCount bs a e most size).1 ∧ (cCount bs a e most size).1 ≤ 9223372036854775807 := by
  unfold cCount
  split
  · simp
  · rcases resC_form (isB_drop hb a) most size with ⟨x, hx, h⟩ | ⟨n, m, _, _, h, _, h1, _⟩ <;> rw [h] <;> simp
    omega
def ReadPost (A : Option Addr) (bs : List Int) (c a : Nat) (e : Int) (r : Rd) (sv : SV) (H' : List Ob) (G' : Gh) : Prop :=
  (∃ A' c', sv = .tup [.v (.int .u64 (rdS bs a e r).v), .v (.slice A' (rdS bs a e r).x.length c')] ∧ SlB G' A' c' (rdS bs a e r).x) ∧ H' = [curO A bs.length c (rdS bs a e r).at_ (rdS bs a e r).e]
set_option maxHeartbeats 8000000 in
theorem read_fn (G : Gh) (A : Option Addr) (bs : List Int) (c a : Nat) (e : Int) (r : Rd) (hb : isB bs) (hs : SlB G A c bs) (ha : a ≤ bs.length) (hlen : bs.length ≤ 140737488355328) (hr : r.ok) :
    Ct Try.prog 22 [.p 0 0, r.sv] [curO A bs.length c a e] G (ReadPost A bs c a e r) := by
  obtain ⟨h1, h2, h3, h4⟩ := hr
  refine fn_of follows [] Try.func22 rfl rfl fun E hE => ?_
  repeat' ((fail_if_success with_reducible refine Stop.mk ?_); (conv => whnf); with_reducible first | refine br_t ?_ | refine br_f ?_ | refine br_nn ?_ | refine br_ns ?_ | refine br_not ?_ | refine br_d (fun h => ?_) (fun h => ?_) | refine br_e (fun h => ?_) (fun h => ?_) | refine br_n (fun h => ?_) (fun h => ?_) | refine drw (by kernel_rfl) ?_ | refine chk (by kernel_rfl) ?_ | refine stop ?_)
  all_goals refine Stop.mk ?_
  · have hrd : rdS bs a e r = ⟨(cByte bs a e).1, [], (cByte bs a e).2.1, (cByte bs a e).2.2⟩ := by unfold rdS; rw [if_pos (by omega)]
    have hrg := cByte_range hb a e ha
    refine call_fn [0] (byte_fn _ A bs c a e hb hs ha) rfl ⟨rfl, trivial⟩ (by decide) ?_
    rintro sv H' G' ⟨rfl, rfl, rfl⟩ -
    refine ⟨by simp, ?_⟩
    repeat' ((fail_if_success with_reducible refine Stop.mk ?_); (conv => whnf); with_reducible first | refine br_t ?_ | refine br_f ?_ | refine br_nn ?_ | refine br_ns ?_ | refine br_not ?_ | refine br_d (fun h => ?_) (fun h => ?_) | refine br_e (fun h => ?_) (fun h => ?_) | refine br_n (fun h => ?_) (fun h => ?_) | refine drw (by kernel_rfl) ?_ | refine chk (by kernel_rfl) ?_ | refine stop ?_)
    all_goals refine Stop.mk ?_
    rw [u64_in (n := (cByte bs a e).1) (by omega) (by omega)]
    refine fin_id hE 1 rfl rfl rfl rfl ?_
    unfold ReadPost
    rw [hrd]
    exact ⟨⟨none, 0, rfl, slB_nil _⟩, rfl⟩
  · have hrd : rdS bs a e r = ⟨0, (cBytes bs a e r.a).1, (cBytes bs a e r.a).2.1, (cBytes bs a e r.a).2.2⟩ := by unfold rdS; rw [if_neg (by omega), if_pos (by omega)]
    refine call_fn [0] (bytes_fn _ A bs c a e r.a hs ha hlen (by omega)) rfl ⟨rfl, trivial⟩ (by decide) ?_
    rintro sv H' G' ⟨⟨A2, c2, rfl, hs2⟩, rfl⟩ -
    refine ⟨by simp, ?_⟩
    repeat' ((fail_if_success with_reducible refine Stop.mk ?_); (conv => whnf); with_reducible first | refine br_t ?_ | refine br_f ?_ | refine br_nn ?_ | refine br_ns ?_ | refine br_not ?_ | refine br_d (fun h => ?_) (fun h => ?_) | refine br_e (fun h => ?_) (fun h => ?_) | refine br_n (fun h => ?_) (fun h => ?_) | refine drw (by kernel_rfl) ?_ | refine chk (by kernel_rfl) ?_ | refine stop ?_)
    all_goals refine Stop.mk ?_
    refine fin_id hE 1 rfl rfl rfl rfl ?_
    unfold ReadPost
    rw [hrd]
    exact ⟨⟨A2, c2, rfl, hs2⟩, rfl⟩
  · have hrd : rdS bs a e r = ⟨(cUint bs a e r.m).1, [], (cUint bs a e r.m).2.1, (cUint bs a e r.m).2.2⟩ := by unfold rdS; rw [if_neg (by omega), if_neg (by omega), if_pos (by omega)]
    refine call_fn [0] (uint_fn _ A bs c a e r.m hb hs ha) rfl ⟨rfl, trivial⟩ (by decide) ?_
    rintro sv H' G' ⟨rfl, rfl, rfl⟩ -
    refine ⟨by simp, ?_⟩
    repeat' ((fail_if_success with_reducible refine Stop.mk ?_); (conv => whnf); with_reducible first | refine br_t ?_ | refine br_f ?_ | refine br_nn ?_ | refine br_ns ?_ | refine br_not ?_ | refine br_d (fun h => ?_) (fun h => ?_) | refine br_e (fun h => ?_) (fun h => ?_) | refine br_n (fun h => ?_) (fun h => ?_) | refine drw (by kernel_rfl) ?_ | refine chk (by kernel_rfl) ?_ | refine stop ?_)
    all_goals refine Stop.mk ?_
    refine fin_id hE 1 rfl rfl rfl rfl ?_
    unfold ReadPost
    rw [hrd]
    exact ⟨⟨none, 0, rfl, slB_nil _⟩, rfl⟩
  · have hrd : rdS bs a e r = ⟨IntKind.u64.wrap (unzig (cUint bs a e 18446744073709551615).1), [], (cUint bs a e 18446744073709551615).2.1, (cUint bs a e 18446744073709551615).2.2⟩ := by unfold rdS; rw [if_neg (by omega), if_neg (by omega), if_neg (by omega), if_pos (by omega)]
    refine call_fn [0] (int_fn _ A bs c a e hb hs ha) rfl ⟨rfl, trivial⟩ (by decide) ?_
    rintro sv H' G' ⟨rfl, rfl, rfl⟩ -
    refine ⟨by simp, ?_⟩
    repeat' ((fail_if_success with_reducible refine Stop.mk ?_); (conv => whnf); with_reducible first | refine br_t ?_ | refine br_f ?_ | refine br_nn ?_ | refine br_ns ?_ | refine br_not ?_ | refine br_d (fun h => ?_) (fun h => ?_) | refine br_e (fun h => ?_) (fun h => ?_) | refine br_n (fun h => ?_) (fun h => ?_) | refine drw (by kernel_rfl) ?_ | refine chk (by kernel_rfl) ?_ | refine stop ?_)
    all_goals refine Stop.mk ?_
    refine fin_id hE 1 rfl rfl rfl rfl ?_
    unfold ReadPost
    rw [hrd]
    exact ⟨⟨none, 0, rfl, slB_nil _⟩, rfl⟩
  · have hrd : rdS bs a e r = ⟨(cCount bs a e r.a r.b).1, [], (cCount bs a e r.a r.b).2.1, (cCount bs a e r.a r.b).2.2⟩ := by unfold rdS; rw [if_neg (by omega), if_neg (by omega), if_neg (by omega), if_neg (by omega), if_pos (by omega)]
    have hrg := cCount_range hb a e r.a r.b (by omega)
    refine call_fn [0] (count_fn _ A bs c a e r.a r.b hb hs ha (by omega) (by omega)) rfl ⟨rfl, trivial⟩ (by decide) ?_
    rintro sv H' G' ⟨rfl, rfl, rfl⟩ -
    refine ⟨by simp, ?_⟩
    repeat' ((fail_if_success with_reducible refine Stop.mk ?_); (conv => whnf); with_reducible first | refine br_t ?_ | refine br_f ?_ | refine br_nn ?_ | refine br_ns ?_ | refine br_not ?_ | refine br_d (fun h => ?_) (fun h => ?_) | refine br_e (fun h => ?_) (fun h => ?_) | refine br_n (fun h => ?_) (fun h => ?_) | refine drw (by kernel_rfl) ?_ | refine chk (by kernel_rfl) ?_ | refine stop ?_)
    all_goals refine Stop.mk ?_
    rw [u64_in (n := (cCount bs a e r.a r.b).1) (by omega) (by omega)]
    refine fin_id hE 1 rfl rfl rfl rfl ?_
    unfold ReadPost
    rw [hrd]
    exact ⟨⟨none, 0, rfl, slB_nil _⟩, rfl⟩
  · have hrd : rdS bs a e r = ⟨0, [], a, if leftN bs.length a e > 0 then 2 else e⟩ := by unfold rdS; rw [if_neg (by omega), if_neg (by omega), if_neg (by omega), if_neg (by omega), if_neg (by omega), if_pos (by omega)]
    refine call_fn [0] (end_fn _ A bs.length c a e (by omega) (by omega) (by omega)) rfl ⟨rfl, trivial⟩ (by decide) ?_
    rintro sv H' G' ⟨rfl, rfl, rfl⟩ -
    refine ⟨by simp, ?_⟩
    repeat' ((fail_if_success with_reducible refine Stop.mk ?_); (conv => whnf); with_reducible first | refine br_t ?_ | refine br_f ?_ | refine br_nn ?_ | refine br_ns ?_ | refine br_not ?_ | refine br_d (fun h => ?_) (fun h => ?_) | refine br_e (fun h => ?_) (fun h => ?_) | refine br_n (fun h => ?_) (fun h => ?_) | refine drw (by kernel_rfl) ?_ | refine chk (by kernel_rfl) ?_ | refine stop ?_)
    all_goals refine Stop.mk ?_
    refine fin_id hE 1 rfl rfl rfl rfl ?_
    unfold ReadPost
    rw [hrd]
    exact ⟨⟨none, 0, rfl, slB_nil _⟩, rfl⟩
  · have hrd : rdS bs a e r = ⟨0, [], a, failE e r.a⟩ := by unfold rdS; rw [if_neg (by omega), if_neg (by omega), if_neg (by omega), if_neg (by omega), if_neg (by omega), if_neg (by omega), if_pos (by omega)]
    refine call_fn [0] (fail_fn _ A bs.length c a e r.a) rfl ⟨rfl, trivial⟩ (by decide) ?_
    rintro sv H' G' ⟨rfl, rfl, rfl⟩ -
    refine ⟨by simp, ?_⟩
    repeat' ((fail_if_success with_reducible refine Stop.mk ?_); (conv => whnf); with_reducible first | refine br_t ?_ | refine br_f ?_ | refine br_nn ?_ | refine br_ns ?_ | refine br_not ?_ | refine br_d (fun h => ?_) (fun h => ?_) | refine br_e (fun h => ?_) (fun h => ?_) | refine br_n (fun h => ?_) (fun h => ?_) | refine drw (by kernel_rfl) ?_ | refine chk (by kernel_rfl) ?_ | refine stop ?_)
    all_goals refine Stop.mk ?_
    refine fin_id hE 1 rfl rfl rfl rfl ?_
    unfold ReadPost
    rw [hrd]
    exact ⟨⟨none, 0, rfl, slB_nil _⟩, rfl⟩
  · have hrd : rdS bs a e r = ⟨0, [], a, e⟩ := by unfold rdS; rw [if_neg (by omega), if_neg (by omega), if_neg (by omega), if_neg (by omega), if_neg (by omega), if_neg (by omega), if_neg (by omega)]
    refine fin_id hE 1 rfl rfl rfl rfl ?_
    unfold ReadPost
    rw [hrd]
    exact ⟨⟨none, 0, rfl, slB_nil _⟩, rfl⟩
end Go.Proofs.Ytihnbkoeaaepiaa.Cu
