/- The reference's Put and Add. -/
import Derived.Test.YtgdfhpknhcjipaaCu6
import Derived.Test.YtgdfhpknhcjipaaSXK
namespace Go.Proofs.Ytgdfhpknhcjipaa.Cu
open Go Go.SX Go.Proofs.Ytgdfhpknhcjipaa.VT
set_option maxRecDepth 100000
set_option linter.unusedVariables false
set_option linter.unusedSimpArgs false

def rowB (l : List Int) : Ob := .row 5 1 l.length (byts l)
theorem byts_app (l m : List Int) : byts (l ++ m) = byts l ++ byts m := by simp [byts]
theorem rput_fn (G : Gh) (v : Nat) (hv : v < 18446744073709551616) :
    Ct Try.prog 60 [.v (.int .u64 v)] [] G fun sv H' G' => sv = .s 0 ∧ H' = [rowB (putB v)] ∧ G' = G := by
  refine fn_of follows [] Try.func60 rfl rfl fun E hE => ?_
  repeat' ((fail_if_success with_reducible refine Stop.mk ?_); (conv => whnf); with_reducible first | refine br_t ?_ | refine br_f ?_ | refine br_nn ?_ | refine br_ns ?_ | refine br_not ?_ | refine br_d (fun h => ?_) (fun h => ?_) | refine br_e (fun h => ?_) (fun h => ?_) | refine br_n (fun h => ?_) (fun h => ?_) | refine drw (by kernel_rfl) ?_ | refine chk (by kernel_rfl) ?_ | refine stop ?_)
  all_goals refine Stop.mk ?_
  refine loop_gh (gh_birth 3 5 1 rfl) ?_
  rintro _ _ ⟨rfl, rfl⟩
  refine loop_vars follows [] (α := Nat × Nat × List Int) (fun x => [(0, .v (.int .u64 x.2.1)), (3, .s 0)]) (fun x => [rowB x.2.2]) (fun x => G)
    (fun x => x.1 ≤ 9 ∧ x.2.1 < 2 ^ (1 + 7 * x.1) ∧ x.2.2 ++ vput x.1 x.2.1 = putB v) (fun x => x.1) (9, v, []) ⟨Nat.le_refl _, by simpa using hv, rfl⟩ rfl rfl ?_ ?_
  ·
    refine ⟨?_⟩
    (conv => whnf)
    (repeat' (first | exact trivial | exact .inl rfl | exact .inr rfl | refine And.intro ?_ ?_))
  rintro ⟨i, u, out⟩ ⟨h1, h2, h3⟩
  dsimp only at h1 h2 h3 ⊢
  have h64 : 2 ^ (1 + 7 * i) ≤ 18446744073709551616 := by
    have := Nat.pow_le_pow_right (n := 2) (by decide) (show 1 + 7 * i ≤ 64 by omega)
    omega
  have hlen : out.length ≤ 10 := by
    have := congrArg List.length h3
    have h5 := putB_len v
    rw [List.length_append] at this
    have h4 : (putB v).length ≤ 10 := h5
    omega
  repeat' ((fail_if_success with_reducible refine Stop.mk ?_); (conv => whnf); with_reducible first | refine br_t ?_ | refine br_f ?_ | refine br_nn ?_ | refine br_ns ?_ | refine br_not ?_ | refine br_d (fun h => ?_) (fun h => ?_) | refine br_e (fun h => ?_) (fun h => ?_) | refine br_n (fun h => ?_) (fun h => ?_) | refine drw (by kernel_rfl) ?_ | refine chk (by kernel_rfl) ?_ | refine stop ?_)
  all_goals refine Stop.mk ?_
  · cases i with
    | zero => simp at h2; omega
    | succ j =>
      rw [Int.tmod_eq_emod_of_nonneg (by omega)]
      have e1 : IntKind.u8.wrap (IntKind.u8.wrap ((u : Int) % 128) + 128) = ((u % 128 + 128 : Nat) : Int) := by simp only [IntKind.wrap_u8]; omega
      have e2 : IntKind.u64.wrap ((u : Int) / 128) = ((u / 128 : Nat) : Int) := by rw [u64_in (by omega) (by omega)]; omega
      rw [e1]
      refine ⟨by simp [Value.oneCell'], ⟨by show (out.length + 1) * 1 ≤ _; omega, ?_⟩⟩
      repeat' ((fail_if_success with_reducible refine Stop.mk ?_); (conv => whnf); with_reducible first | refine br_t ?_ | refine br_f ?_ | refine br_nn ?_ | refine br_ns ?_ | refine br_not ?_ | refine br_d (fun h => ?_) (fun h => ?_) | refine br_e (fun h => ?_) (fun h => ?_) | refine br_n (fun h => ?_) (fun h => ?_) | refine drw (by kernel_rfl) ?_ | refine chk (by kernel_rfl) ?_ | refine stop ?_)
      all_goals refine Stop.mk ?_
      rw [Int.tdiv_eq_ediv_of_nonneg (by omega), e2]
      have hst : vput (j + 1) u = ((u % 128 + 128 : Nat) : Int) :: vput j (u / 128) := by simp only [vput]; rw [if_neg (by omega)]
      refine tell_gc hE [0] rfl rfl ?_
      (conv => whnf)
      refine tell_here ⟨(j, u / 128, out ++ [((u % 128 + 128 : Nat) : Int)]), ⟨by show j ≤ 9; omega, ?_, ?_⟩, by show j < j + 1; omega, ?_, rfl, ?_⟩
      · show u / 128 < 2 ^ (1 + 7 * j)
        have := pow_step j
        omega
      · show (out ++ [_]) ++ vput j (u / 128) = putB v
        rw [← h3, hst]; simp
      · show [rowB _] = _
        unfold rowB
        rw [List.length_append, byts_app]; rfl
      ·
        refine ⟨?_⟩
        (conv => whnf)
        (repeat' (first | exact trivial | exact .inl rfl | exact .inr rfl | refine And.intro ?_ ?_))
  · have hst : vput i u = [(u : Int)] := by cases i with
      | zero => rfl
      | succ j => simp only [vput]; rw [if_pos (by omega)]
    have e1 : IntKind.u8.wrap (u : Int) = u := by simp only [IntKind.wrap_u8]; omega
    rw [e1]
    refine ⟨by simp [Value.oneCell'], ⟨by show (out.length + 1) * 1 ≤ _; omega, ?_⟩⟩
    repeat' ((fail_if_success with_reducible refine Stop.mk ?_); (conv => whnf); with_reducible first | refine br_t ?_ | refine br_f ?_ | refine br_nn ?_ | refine br_ns ?_ | refine br_not ?_ | refine br_d (fun h => ?_) (fun h => ?_) | refine br_e (fun h => ?_) (fun h => ?_) | refine br_n (fun h => ?_) (fun h => ?_) | refine drw (by kernel_rfl) ?_ | refine chk (by kernel_rfl) ?_ | refine stop ?_)
    all_goals refine Stop.mk ?_
    refine fin_mk hE [0] (.s 0) [rowB (putB v)] rfl ⟨?_, trivial⟩ rfl ⟨rfl, rfl, rfl⟩
    rw [← h3, hst]
    show some _ = some _
    unfold rowB
    rw [List.length_append, byts_app]; rfl
theorem radd_fn (G : Gh) (A B : Option Addr) (c d : Nat) (l m : List Int) (hl : SlB G A c l) (hm : SlB G B d m) (h : l.length + m.length ≤ 140737488355328) :
    Ct Try.prog 20 [.v (.slice A l.length c), .v (.slice B m.length d)] [] G fun sv H' G' => sv = .s 0 ∧ H' = [rowB (l ++ m)] ∧ G' = G := by
  refine fn_of follows [] Try.func20 rfl rfl fun E hE => ?_
  repeat' ((fail_if_success with_reducible refine Stop.mk ?_); (conv => whnf); with_reducible first | refine br_t ?_ | refine br_f ?_ | refine br_nn ?_ | refine br_ns ?_ | refine br_not ?_ | refine br_d (fun h => ?_) (fun h => ?_) | refine br_e (fun h => ?_) (fun h => ?_) | refine br_n (fun h => ?_) (fun h => ?_) | refine drw (by kernel_rfl) ?_ | refine chk (by kernel_rfl) ?_ | refine stop ?_)
  all_goals refine Stop.mk ?_
  refine ⟨_, hl, ⟨by show (0 + l.length) * 1 ≤ _; omega, ?_⟩⟩
  repeat' ((fail_if_success with_reducible refine Stop.mk ?_); (conv => whnf); with_reducible first | refine br_t ?_ | refine br_f ?_ | refine br_nn ?_ | refine br_ns ?_ | refine br_not ?_ | refine br_d (fun h => ?_) (fun h => ?_) | refine br_e (fun h => ?_) (fun h => ?_) | refine br_n (fun h => ?_) (fun h => ?_) | refine drw (by kernel_rfl) ?_ | refine chk (by kernel_rfl) ?_ | refine stop ?_)
  all_goals refine Stop.mk ?_
  refine ⟨_, hm, ⟨by show (0 + l.length + m.length) * 1 ≤ _; omega, ?_⟩⟩
  repeat' ((fail_if_success with_reducible refine Stop.mk ?_); (conv => whnf); with_reducible first | refine br_t ?_ | refine br_f ?_ | refine br_nn ?_ | refine br_ns ?_ | refine br_not ?_ | refine br_d (fun h => ?_) (fun h => ?_) | refine br_e (fun h => ?_) (fun h => ?_) | refine br_n (fun h => ?_) (fun h => ?_) | refine drw (by kernel_rfl) ?_ | refine chk (by kernel_rfl) ?_ | refine stop ?_)
  all_goals refine Stop.mk ?_
  refine fin_mk hE [0] (.s 0) [rowB (l ++ m)] rfl ⟨?_, trivial⟩ rfl ⟨rfl, rfl, rfl⟩
  show some _ = some _
  unfold rowB
  rw [List.length_append, byts_app]
  simp only [Nat.zero_add, List.nil_append]
  rfl
end Go.Proofs.Ytgdfhpknhcjipaa.Cu
