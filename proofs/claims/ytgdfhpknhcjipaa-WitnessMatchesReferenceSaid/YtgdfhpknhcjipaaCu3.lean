/- The cursor: Byte, Int, Count, End. -/
import Derived.Test.YtgdfhpknhcjipaaCu2
namespace Go.Proofs.Ytgdfhpknhcjipaa.Cu
open Go Go.SX Go.Proofs.Ytgdfhpknhcjipaa.VT
set_option maxRecDepth 100000
set_option linter.unusedVariables false

def u8O (x : Int) : Ob := .cells 5 [.v (.int .u8 x)]
def intO (x : Int) : Ob := .cells 3 [.v (.int .i64 x)]
theorem byte1_fn (G : Gh) (A : Option Addr) (c : Nat) (bs : List Int) (x : Int) (hs : SlB G A c bs) :
    Ct Try.prog 55 [.v (.slice A bs.length c), .p 0 0] [u8O x] G fun sv H' G' =>
      sv = .tup [.v (.int .i64 ((if bs.length = 0 then 0 else 1 : Nat) : Int)), .v (.int .i64 (if bs.length = 0 then 1 else 0))] ∧ H' = [u8O (if bs.length = 0 then x else bs.getD 0 0)] ∧ G' = G := by
  refine fn_of follows [] Try.func55 rfl rfl fun E hE => ?_
  repeat' ((fail_if_success with_reducible refine Stop.mk ?_); (conv => whnf); with_reducible first | refine br_t ?_ | refine br_f ?_ | refine br_nn ?_ | refine br_ns ?_ | refine br_not ?_ | refine br_d (fun h => ?_) (fun h => ?_) | refine br_e (fun h => ?_) (fun h => ?_) | refine br_n (fun h => ?_) (fun h => ?_) | refine drw (by kernel_rfl) ?_ | refine chk (by kernel_rfl) ?_ | refine stop ?_)
  all_goals refine Stop.mk ?_
  · exact fin_all ⟨by rw [if_pos (by omega), if_pos (by omega)]; try rfl, by rw [if_pos (by omega)], rfl⟩
  · refine ⟨⟨by omega, by omega⟩, _, hs, fun ad had => ?_⟩
    repeat' ((fail_if_success with_reducible refine Stop.mk ?_); (conv => whnf); with_reducible first | refine br_t ?_ | refine br_f ?_ | refine br_nn ?_ | refine br_ns ?_ | refine br_not ?_ | refine br_d (fun h => ?_) (fun h => ?_) | refine br_e (fun h => ?_) (fun h => ?_) | refine br_n (fun h => ?_) (fun h => ?_) | refine drw (by kernel_rfl) ?_ | refine chk (by kernel_rfl) ?_ | refine stop ?_)
    all_goals refine Stop.mk ?_
    refine ⟨_, el1 had (by omega), ?_⟩
    repeat' ((fail_if_success with_reducible refine Stop.mk ?_); (conv => whnf); with_reducible first | refine br_t ?_ | refine br_f ?_ | refine br_nn ?_ | refine br_ns ?_ | refine br_not ?_ | refine br_d (fun h => ?_) (fun h => ?_) | refine br_e (fun h => ?_) (fun h => ?_) | refine br_n (fun h => ?_) (fun h => ?_) | refine drw (by kernel_rfl) ?_ | refine chk (by kernel_rfl) ?_ | refine stop ?_)
    all_goals refine Stop.mk ?_
    exact fin_all ⟨by rw [if_neg (by omega), if_neg (by omega)]; try rfl, by rw [if_neg (by omega)]; try rfl, rfl⟩
/-- The cursor behind Byte. -/
def cByte (bs : List Int) (a : Nat) (e : Int) : Int × Nat × Int :=
  if e ≠ 0 then (0, a, e) else if bs.length = a then (0, a, 1) else (bs.getD a 0, a + 1, 0)
theorem byte_fn (G : Gh) (A : Option Addr) (bs : List Int) (c a : Nat) (e : Int) (hb : isB bs) (hs : SlB G A c bs) (ha : a ≤ bs.length) :
    Ct Try.prog 34 [.p 0 0] [curO A bs.length c a e] G fun sv H' G' =>
      sv = .v (.int .u8 (cByte bs a e).1) ∧ H' = [curO A bs.length c (cByte bs a e).2.1 (cByte bs a e).2.2] ∧ G' = G := by
  refine fn_of follows [] Try.func34 rfl rfl fun E hE => ?_
  repeat' ((fail_if_success with_reducible refine Stop.mk ?_); (conv => whnf); with_reducible first | refine br_t ?_ | refine br_f ?_ | refine br_nn ?_ | refine br_ns ?_ | refine br_not ?_ | refine br_d (fun h => ?_) (fun h => ?_) | refine br_e (fun h => ?_) (fun h => ?_) | refine br_n (fun h => ?_) (fun h => ?_) | refine drw (by kernel_rfl) ?_ | refine chk (by kernel_rfl) ?_ | refine stop ?_)
  all_goals refine Stop.mk ?_
  have hl : (bs.drop a).length = bs.length - a := by simp
  refine call_fn [0, 1] (read_fn1 G A bs c a e 55 (u8O 0)
    (fun r why y1 G' => r = (if bs.length = a then 0 else 1) ∧ why = (if bs.length = a then 1 else 0) ∧ y1 = u8O (if bs.length = a then 0 else bs.getD a 0) ∧ G' = G) hs ha ?_ ?_) rfl ⟨rfl, rfl, trivial⟩ (by decide) ?_
  · rintro r why y1 G' ⟨h1, h2, _⟩ h0
    split at h1 <;> split at h2 <;> omega
  · intro he E fr A' K hs' hK
    refine call_fn [1] (byte1_fn G A' (c - a) (bs.drop a) 0 hs') rfl ⟨rfl, trivial⟩ (by decide) ?_
    rintro sv H' G' ⟨rfl, rfl, rfl⟩ hg
    refine ⟨by simp, callEnd_cells rfl (hK _ _ _ _ _ ⟨?_, ?_, ?_, rfl⟩ hg)⟩
    · rw [hl]; by_cases h : bs.length = a
      · rw [if_pos h, if_pos (by omega)]
      · rw [if_neg h, if_neg (by omega)]
    · rw [hl]; by_cases h : bs.length = a
      · rw [if_pos h, if_pos (by omega)]
      · rw [if_neg h, if_neg (by omega)]
    · show u8O _ = _
      rw [hl]; by_cases h : bs.length = a
      · rw [if_pos h, if_pos (by omega)]
      · rw [if_neg h, if_neg (by omega)]; simp [List.getD_eq_getElem?_getD]
  · rintro sv H' G' ⟨rfl, hR⟩ hg
    rcases hR with ⟨he, rfl, rfl⟩ | ⟨rfl, r, why, y1, ⟨rfl, rfl, rfl, rfl⟩, rfl⟩
    · refine ⟨by simp, ?_⟩
      repeat' ((fail_if_success with_reducible refine Stop.mk ?_); (conv => whnf); with_reducible first | refine br_t ?_ | refine br_f ?_ | refine br_nn ?_ | refine br_ns ?_ | refine br_not ?_ | refine br_d (fun h => ?_) (fun h => ?_) | refine br_e (fun h => ?_) (fun h => ?_) | refine br_n (fun h => ?_) (fun h => ?_) | refine drw (by kernel_rfl) ?_ | refine chk (by kernel_rfl) ?_ | refine stop ?_)
      all_goals refine Stop.mk ?_
      have hc : cByte bs a e = (0, a, e) := if_pos he
      refine fin_id hE 1 rfl rfl rfl rfl ⟨?_, ?_, rfl⟩ <;> rw [hc]
      rfl
    · refine ⟨by simp, ?_⟩
      repeat' ((fail_if_success with_reducible refine Stop.mk ?_); (conv => whnf); with_reducible first | refine br_t ?_ | refine br_f ?_ | refine br_nn ?_ | refine br_ns ?_ | refine br_not ?_ | refine br_d (fun h => ?_) (fun h => ?_) | refine br_e (fun h => ?_) (fun h => ?_) | refine br_n (fun h => ?_) (fun h => ?_) | refine drw (by kernel_rfl) ?_ | refine chk (by kernel_rfl) ?_ | refine stop ?_)
      all_goals refine Stop.mk ?_
      by_cases hw : bs.length = a
      · have hc : cByte bs a 0 = (0, a, 1) := by unfold cByte; rw [if_neg (by decide), if_pos hw]
        refine fin_id hE 1 rfl rfl rfl rfl ⟨?_, ?_, rfl⟩ <;> rw [hc]
        · rw [if_pos hw]
        · show [curO A bs.length c _ _] = _
          rw [if_pos hw, if_pos hw, if_neg (by decide)]
      · have hc : cByte bs a 0 = (bs.getD a 0, a + 1, 0) := by unfold cByte; rw [if_neg (by decide), if_neg hw]
        refine fin_id hE 1 rfl rfl rfl rfl ⟨?_, ?_, rfl⟩ <;> rw [hc]
        · rw [if_neg hw]
        · show [curO A bs.length c _ _] = _
          rw [if_neg hw, if_neg hw, if_pos rfl]
theorem uint_range {bs : List Int} (hb : isB bs) (a : Nat) (e most : Int) : 0 ≤ (cUint bs a e most).1 ∧ (cUint bs a e most).1 < 18446744073709551616 := by
  unfold cUint
  rcases vdec_form (isB_drop hb a) with ⟨x, hx, h⟩ | ⟨n, m, h, h3, h4, h5, _⟩ <;> rw [h] <;> (repeat' split) <;> simp <;> omega
theorem end_fn (G : Gh) (A : Option Addr) (n c : Nat) (a e : Int) (h0 : 0 ≤ a) (h1 : a ≤ n) (hn : n ≤ 9223372036854775807) :
    Ct Try.prog 38 [.p 0 0] [curO A n c a e] G fun sv H' G' => sv = .tup [] ∧ H' = [curO A n c a (if leftN n a e > 0 then 2 else e)] ∧ G' = G := by
  refine fn_of follows [] Try.func38 rfl rfl fun E hE => ?_
  repeat' ((fail_if_success with_reducible refine Stop.mk ?_); (conv => whnf); with_reducible first | refine br_t ?_ | refine br_f ?_ | refine br_nn ?_ | refine br_ns ?_ | refine br_not ?_ | refine br_d (fun h => ?_) (fun h => ?_) | refine br_e (fun h => ?_) (fun h => ?_) | refine br_n (fun h => ?_) (fun h => ?_) | refine drw (by kernel_rfl) ?_ | refine chk (by kernel_rfl) ?_ | refine stop ?_)
  all_goals refine Stop.mk ?_
  refine call_fn [0] (left_fn G A n c a e h0 h1 hn) rfl ⟨rfl, trivial⟩ (by decide) ?_
  rintro sv H' G' ⟨rfl, rfl, rfl⟩ hg
  refine ⟨by simp, ?_⟩
  repeat' ((fail_if_success with_reducible refine Stop.mk ?_); (conv => whnf); with_reducible first | refine br_t ?_ | refine br_f ?_ | refine br_nn ?_ | refine br_ns ?_ | refine br_not ?_ | refine br_d (fun h => ?_) (fun h => ?_) | refine br_e (fun h => ?_) (fun h => ?_) | refine br_n (fun h => ?_) (fun h => ?_) | refine drw (by kernel_rfl) ?_ | refine chk (by kernel_rfl) ?_ | refine stop ?_)
  all_goals refine Stop.mk ?_
  · refine call_fn [0] (fail_fn _ A n c a e 2) rfl ⟨rfl, trivial⟩ (by decide) ?_
    rintro sv H' G' ⟨rfl, rfl, rfl⟩ hg
    refine ⟨by simp, ?_⟩
    repeat' ((fail_if_success with_reducible refine Stop.mk ?_); (conv => whnf); with_reducible first | refine br_t ?_ | refine br_f ?_ | refine br_nn ?_ | refine br_ns ?_ | refine br_not ?_ | refine br_d (fun h => ?_) (fun h => ?_) | refine br_e (fun h => ?_) (fun h => ?_) | refine br_n (fun h => ?_) (fun h => ?_) | refine drw (by kernel_rfl) ?_ | refine chk (by kernel_rfl) ?_ | refine stop ?_)
    all_goals refine Stop.mk ?_
    refine fin_all ⟨rfl, ?_, rfl⟩
    show [curO A n c a (failE e 2)] = _
    rw [if_pos (by assumption)]
    have he : e = 0 := by have : leftN n a e > 0 := by assumption
                          unfold leftN at this; split at this <;> omega
    rw [failE, if_pos he]
  · refine fin_all ⟨rfl, ?_, rfl⟩
    rw [if_neg (by assumption)]; rfl
end Go.Proofs.Ytgdfhpknhcjipaa.Cu
