/- The cursor: Bytes, New, none; the writer. -/
import Derived.Test.YtknpjbbkageiiaaCu4
namespace Go.Proofs.Ytknpjbbkageiiaa.Cu
open Go Go.SX Go.Proofs.Ytknpjbbkageiiaa.VT
set_option maxRecDepth 100000
set_option linter.unusedVariables false

theorem slB_nil (G : Gh) : SlB G none 0 [] := ⟨rfl, Nat.le_refl _, by decide, fun ad h => by simp at h, fun _ => ⟨rfl, rfl⟩, fun v hv => by simp [byts] at hv⟩
/-- The cursor behind Bytes. -/
def cBytes (bs : List Int) (a : Nat) (e n : Int) : List Int × Nat × Int :=
  if e ≠ 0 then ([], a, e) else if n < 0 then ([], a, 32) else if n > ((bs.length - a : Nat) : Int) then ([], a, 1) else ((bs.drop a).take n.toNat, a + n.toNat, 0)
theorem new_fn (G : Gh) (A : Option Addr) (bs : List Int) (c : Nat) (hs : SlB G A c bs) (hlen : bs.length ≤ 140737488355328) :
    Ct Try.prog 13 [.v (.slice A bs.length c)] [] G fun sv H' G' => ∃ A' c', sv = .p 0 0 ∧ H' = [curO A' bs.length c' 0 0] ∧ SlB G' A' c' bs := by
  refine fn_of follows [] Try.func13 rfl rfl fun E hE => ?_
  repeat' ((fail_if_success with_reducible refine Stop.mk ?_); (conv => whnf); with_reducible first | refine br_t ?_ | refine br_f ?_ | refine br_nn ?_ | refine br_ns ?_ | refine br_not ?_ | refine br_d (fun h => ?_) (fun h => ?_) | refine br_e (fun h => ?_) (fun h => ?_) | refine br_n (fun h => ?_) (fun h => ?_) | refine drw (by kernel_rfl) ?_ | refine chk (by kernel_rfl) ?_ | refine stop ?_)
  all_goals refine Stop.mk ?_
  refine ⟨_, hs, ⟨by show (0 + bs.length) * 1 ≤ _; omega, ?_⟩⟩
  repeat' ((fail_if_success with_reducible refine Stop.mk ?_); (conv => whnf); with_reducible first | refine br_t ?_ | refine br_f ?_ | refine br_nn ?_ | refine br_ns ?_ | refine br_not ?_ | refine br_d (fun h => ?_) (fun h => ?_) | refine br_e (fun h => ?_) (fun h => ?_) | refine br_n (fun h => ?_) (fun h => ?_) | refine drw (by kernel_rfl) ?_ | refine chk (by kernel_rfl) ?_ | refine stop ?_)
  all_goals refine Stop.mk ?_
  refine fin_done 0 rfl (by simpa using byts_one bs) fun A2 c2 G2 hg hsl => fin_mk hE [1] (.p 0 0) [curO A2 bs.length c2 0 0] rfl ⟨?_, trivial⟩ rfl ⟨A2, c2, rfl, rfl, ?_⟩
  · show nth _ _ = _
    simp only [Nat.zero_add]
    rfl
  · have h := hsl
    simp only [Nat.zero_add, List.nil_append] at h
    exact h
theorem errN_fn (G : Gh) :
    Ct Try.prog 33 [.v (.pointer none)] [] G fun sv H' G' => sv = .v (.int .i64 32) ∧ H' = [] ∧ G' = G := by
  refine fn_of follows [] Try.func33 rfl rfl fun E hE => ?_
  repeat' ((fail_if_success with_reducible refine Stop.mk ?_); (conv => whnf); with_reducible first | refine br_t ?_ | refine br_f ?_ | refine br_nn ?_ | refine br_ns ?_ | refine br_not ?_ | refine br_d (fun h => ?_) (fun h => ?_) | refine br_e (fun h => ?_) (fun h => ?_) | refine br_n (fun h => ?_) (fun h => ?_) | refine drw (by kernel_rfl) ?_ | refine chk (by kernel_rfl) ?_ | refine stop ?_)
  all_goals refine Stop.mk ?_
  exact fin_all ⟨rfl, rfl, rfl⟩
theorem readN_fn (G : Gh) (F : FuncId) (caps : List SV) (H : List Ob) :
    Ct Try.prog 94 [.v (.pointer none), .f (.func F) [] caps] H G fun sv H' G' => sv = .tup [] ∧ H' = H ∧ G' = G := by
  refine fn_of follows [(1, (.cons 0 [] (.cons 1 [] (.cons 2 [] (.cons 3 [] (.cons 4 [] (.cons 5 [] (.cons 6 [] (.cons 7 [] (.cons 8 [] (.cons 9 [] (.cons 10 [4, 8] (.cons 11 [] (.cons 12 [] (.cons 13 [] (.cons 14 [] (.cons 15 [] .nil)))))))))))))))))] Try.func94 rfl rfl fun E hE => ?_
  repeat' ((fail_if_success with_reducible refine Stop.mk ?_); (conv => whnf); with_reducible first | refine br_t ?_ | refine br_f ?_ | refine br_nn ?_ | refine br_ns ?_ | refine br_not ?_ | refine br_d (fun h => ?_) (fun h => ?_) | refine br_e (fun h => ?_) (fun h => ?_) | refine br_n (fun h => ?_) (fun h => ?_) | refine drw (by kernel_rfl) ?_ | refine chk (by kernel_rfl) ?_ | refine stop ?_)
  all_goals refine Stop.mk ?_
  exact fin_all ⟨rfl, rfl, rfl⟩
theorem byteN_fn (G : Gh) :
    Ct Try.prog 53 [.v (.pointer none)] [] G fun sv H' G' => sv = .v (.int .u8 0) ∧ H' = [] ∧ G' = G := by
  refine fn_of follows [] Try.func53 rfl rfl fun E hE => ?_
  repeat' ((fail_if_success with_reducible refine Stop.mk ?_); (conv => whnf); with_reducible first | refine br_t ?_ | refine br_f ?_ | refine br_nn ?_ | refine br_ns ?_ | refine br_not ?_ | refine br_d (fun h => ?_) (fun h => ?_) | refine br_e (fun h => ?_) (fun h => ?_) | refine br_n (fun h => ?_) (fun h => ?_) | refine drw (by kernel_rfl) ?_ | refine chk (by kernel_rfl) ?_ | refine stop ?_)
  all_goals refine Stop.mk ?_
  refine call_fn [0] (readN_fn G 95 [.p 0 0] [u8O 0]) rfl ⟨rfl, trivial⟩ (by decide) ?_
  rintro sv H' G' ⟨rfl, rfl, rfl⟩ hg
  refine ⟨by simp, ?_⟩
  repeat' ((fail_if_success with_reducible refine Stop.mk ?_); (conv => whnf); with_reducible first | refine br_t ?_ | refine br_f ?_ | refine br_nn ?_ | refine br_ns ?_ | refine br_not ?_ | refine br_d (fun h => ?_) (fun h => ?_) | refine br_e (fun h => ?_) (fun h => ?_) | refine br_n (fun h => ?_) (fun h => ?_) | refine drw (by kernel_rfl) ?_ | refine chk (by kernel_rfl) ?_ | refine stop ?_)
  all_goals refine Stop.mk ?_
  exact fin_id hE 0 rfl rfl rfl rfl ⟨rfl, rfl, rfl⟩
end Go.Proofs.Ytknpjbbkageiiaa.Cu
