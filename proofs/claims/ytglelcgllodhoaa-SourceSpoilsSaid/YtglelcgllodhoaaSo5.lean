/- Source: the targets of a terminator, the law's fixed results. -/
import Derived.Test.YtglelcgllodhoaaSo4
import Derived.Test.YtglelcgllodhoaaSXg
import Derived.Test.YtglelcgllodhoaaSXP
namespace Go.Proofs.Ytglelcgllodhoaa.Cu
open Go Go.SX Go.Proofs.Ytglelcgllodhoaa.VT
set_option maxRecDepth 100000
set_option linter.unusedVariables false
set_option linter.unusedSimpArgs false
def kN : Kd Int := kI .i64 (-9223372036854775808) 9223372036854775807
/-- The targets of a terminator. -/
def succs (t : Trm) : List Int := if t.kind = 1 then [t.to_] else if t.kind = 2 then [t.to_, t.els] else []
set_option maxHeartbeats 8000000 in
theorem srcSuccs_fn (G : Gh) (t : Trm) (ht : t.ok) :
    Ct Try.prog 40 [t.sv] [] G fun sv H' G' => (∃ A c, sv = .v (.slice A (succs t).length c) ∧ kN.S G' A c (succs t)) ∧ H' = [] := by
  obtain ⟨_, _, h3, h4⟩ := ht
  refine fn_of follows [] Try.func40 rfl rfl fun E hE => ?_
  repeat' ((fail_if_success with_reducible refine Stop.mk ?_); (conv => whnf); with_reducible first | refine br_t ?_ | refine br_f ?_ | refine br_nn ?_ | refine br_ns ?_ | refine br_not ?_ | refine br_d (fun h => ?_) (fun h => ?_) | refine br_e (fun h => ?_) (fun h => ?_) | refine br_n (fun h => ?_) (fun h => ?_) | refine drw_fast (by kernel_rfl) ?_ | refine chk (by kernel_rfl) ?_ | refine stop ?_)
  all_goals refine Stop.mk ?_
  all_goals first
    | (have h1 : t.kind = 1 := by assumption
       have hs : succs t = [t.to_] := if_pos h1
       rw [hs]
       exact fin_done 1 rfl (by simp [Value.oneCell']) fun A c G2 hg hsl => fin_id hE 0 rfl rfl rfl rfl ⟨⟨A, c, rfl, Kd.S.of hsl rfl rfl ⟨[[.int .i64 t.to_]], ⟨⟨rfl, h3⟩, trivial⟩, rfl⟩⟩, rfl⟩)
    | (have h1 : t.kind ≠ 1 := by assumption
       have h2 : t.kind = 2 := by assumption
       have hs : succs t = [t.to_, t.els] := by unfold succs; rw [if_neg h1, if_pos h2]
       rw [hs]
       exact fin_done 1 rfl (by simp [Value.oneCell']) fun A c G2 hg hsl => fin_id hE 0 rfl rfl rfl rfl ⟨⟨A, c, rfl, Kd.S.of hsl rfl rfl ⟨[[.int .i64 t.to_], [.int .i64 t.els]], ⟨⟨rfl, h3⟩, ⟨rfl, h4⟩, trivial⟩, rfl⟩⟩, rfl⟩)
    | (have h1 : t.kind ≠ 1 := by assumption
       have h2 : t.kind ≠ 2 := by assumption
       have hs : succs t = [] := by unfold succs; rw [if_neg h1, if_neg h2]
       rw [hs]
       exact fin_id hE 0 rfl rfl rfl rfl ⟨⟨none, 0, rfl, Kd.S.none_ _ _⟩, rfl⟩)
theorem numbers_fn (G : Gh) (A B : Option Addr) (c d : Nat) (xs ys : List Int) (hl : kN.S G A c xs) (hm : kN.S G B d ys) :
    Ct Try.prog 39 [.v (.slice A xs.length c), .v (.slice B ys.length d)] [] G fun sv H' G' => sv = .v (.bool (decide (xs = ys))) ∧ H' = [] ∧ G' = G := by
  have hcap := hl.cap
  have hcap2 := hm.cap
  refine fn_of follows [(6, (.cons 0 [] (.cons 1 [] (.cons 2 [] (.cons 3 [] (.cons 4 [] (.cons 5 [] (.cons 6 [] (.cons 7 [] (.cons 8 [] .nil))))))))))] Try.func39 rfl rfl fun E hE => ?_
  repeat' ((fail_if_success with_reducible refine Stop.mk ?_); (conv => whnf); with_reducible first | refine br_t ?_ | refine br_f ?_ | refine br_nn ?_ | refine br_ns ?_ | refine br_not ?_ | refine br_d (fun h => ?_) (fun h => ?_) | refine br_e (fun h => ?_) (fun h => ?_) | refine br_n (fun h => ?_) (fun h => ?_) | refine drw_fast (by kernel_rfl) ?_ | refine chk (by kernel_rfl) ?_ | refine stop ?_)
  all_goals refine Stop.mk ?_
  rotate_left
  · refine fin_id hE 0 rfl rfl rfl rfl ⟨congrArg (fun b => SV.v (.bool b)) ?_, rfl, rfl⟩
    symm; simp only [decide_eq_false_iff_not]; rintro rfl
    exact h rfl
  have hlen : xs.length = ys.length := by omega
  refine loop_vars follows [(6, (.cons 0 [] (.cons 1 [] (.cons 2 [] (.cons 3 [] (.cons 4 [] (.cons 5 [] (.cons 6 [] (.cons 7 [] (.cons 8 [] .nil))))))))))] (α := Nat) (fun k => [(5, .v (.int .i64 k))]) (fun x => []) (fun x => G) (fun k => k ≤ xs.length ∧ ∀ j, j < k → xs[j]? = ys[j]?) (fun k => xs.length - k) 0
    ⟨Nat.zero_le _, fun j h => absurd h (Nat.not_lt_zero _)⟩ rfl rfl ?_ ?_
  ·
    refine ⟨?_⟩
    (conv => whnf)
    (repeat' (first | exact trivial | exact .inl rfl | exact .inr rfl | refine And.intro ?_ ?_))
  intro k hI
  have hk := hI.1
  have hall := hI.2
  clear hI
  repeat' ((fail_if_success with_reducible refine Stop.mk ?_); (conv => whnf); with_reducible first | refine br_t ?_ | refine br_f ?_ | refine br_nn ?_ | refine br_ns ?_ | refine br_not ?_ | refine br_d (fun h => ?_) (fun h => ?_) | refine br_e (fun h => ?_) (fun h => ?_) | refine br_n (fun h => ?_) (fun h => ?_) | refine drw_fast (by kernel_rfl) ?_ | refine chk (by kernel_rfl) ?_ | refine stop ?_)
  all_goals refine Stop.mk ?_
  ·
    obtain ⟨_, hs_, hat_⟩ := hl.at (sz := 1) rfl
    refine ⟨⟨by omega, by omega⟩, _, hs_, fun ad had hadr => ?_⟩
    obtain ⟨x, cells, hx, hRx, hGx⟩ := hat_ k (by omega) ad (by first | exact had | (rw [Int.toNat_natCast] at had; exact had))
    clear had hat_ hs_
    obtain ⟨rfl, hx1⟩ := hRx
    have hw2 : IntKind.i64.wrap ((k : Int) + 1) = ((k + 1 : Nat) : Int) := by rw [i64_in (by omega) (by omega)]; simp
    repeat' ((fail_if_success with_reducible refine Stop.mk ?_); (conv => whnf); with_reducible first | refine br_t ?_ | refine br_f ?_ | refine br_nn ?_ | refine br_ns ?_ | refine br_not ?_ | refine br_d (fun h => ?_) (fun h => ?_) | refine br_e (fun h => ?_) (fun h => ?_) | refine br_n (fun h => ?_) (fun h => ?_) | refine drw_fast (by kernel_rfl) ?_ | refine chk (by kernel_rfl) ?_ | refine stop ?_)
    all_goals refine Stop.mk ?_
    refine ⟨_, hGx 0 _ rfl, ?_⟩
    repeat' ((fail_if_success with_reducible refine Stop.mk ?_); (conv => whnf); with_reducible first | refine br_t ?_ | refine br_f ?_ | refine br_nn ?_ | refine br_ns ?_ | refine br_not ?_ | refine br_d (fun h => ?_) (fun h => ?_) | refine br_e (fun h => ?_) (fun h => ?_) | refine br_n (fun h => ?_) (fun h => ?_) | refine drw_fast (by kernel_rfl) ?_ | refine chk (by kernel_rfl) ?_ | refine stop ?_)
    all_goals refine Stop.mk ?_
    obtain ⟨_, hs_, hat_⟩ := hm.at (sz := 1) rfl
    refine ⟨⟨by omega, by omega⟩, _, hs_, fun ad had hadr => ?_⟩
    obtain ⟨y, cells, hy, hRy, hGy⟩ := hat_ k (by omega) ad (by first | exact had | (rw [Int.toNat_natCast] at had; exact had))
    clear had hat_ hs_
    obtain ⟨rfl, hy1⟩ := hRy
    repeat' ((fail_if_success with_reducible refine Stop.mk ?_); (conv => whnf); with_reducible first | refine br_t ?_ | refine br_f ?_ | refine br_nn ?_ | refine br_ns ?_ | refine br_not ?_ | refine br_d (fun h => ?_) (fun h => ?_) | refine br_e (fun h => ?_) (fun h => ?_) | refine br_n (fun h => ?_) (fun h => ?_) | refine drw_fast (by kernel_rfl) ?_ | refine chk (by kernel_rfl) ?_ | refine stop ?_)
    all_goals refine Stop.mk ?_
    refine ⟨_, hGy 0 _ rfl, ?_⟩
    repeat' ((fail_if_success with_reducible refine Stop.mk ?_); (conv => whnf); with_reducible first | refine br_t ?_ | refine br_f ?_ | refine br_nn ?_ | refine br_ns ?_ | refine br_not ?_ | refine br_d (fun h => ?_) (fun h => ?_) | refine br_e (fun h => ?_) (fun h => ?_) | refine br_n (fun h => ?_) (fun h => ?_) | refine drw_fast (by kernel_rfl) ?_ | refine chk (by kernel_rfl) ?_ | refine stop ?_)
    all_goals refine Stop.mk ?_
    rotate_left
    · refine fin_id hE 0 rfl rfl rfl rfl ⟨congrArg (fun b => SV.v (.bool b)) ?_, rfl, rfl⟩
      symm; simp only [decide_eq_false_iff_not]; rintro rfl
      rw [hx] at hy
      simp at hy
      have hne : x ≠ y := by assumption
      exact hne hy
    · have he : x = y := by assumption
      rw [hw2]
      refine tell_here ⟨k + 1, ⟨by omega, fun j hj => ?_⟩, by show xs.length - (k + 1) < xs.length - k; omega, rfl, rfl, ?_⟩
      · rcases Nat.lt_or_ge j k with h1 | h1
        · exact hall j h1
        · have : j = k := by omega
          subst this; rw [hx, hy, he]
      ·
        refine ⟨?_⟩
        (conv => whnf)
        (repeat' (first | exact trivial | exact .inl rfl | exact .inr rfl | refine And.intro ?_ ?_))
  · have hkl : k = xs.length := by omega
    subst hkl
    refine fin_id hE 0 rfl rfl rfl rfl ⟨congrArg (fun b => SV.v (.bool b)) ?_, rfl, rfl⟩
    symm; rw [decide_eq_true_iff]
    refine List.ext_getElem? fun j => ?_
    rcases Nat.lt_or_ge j xs.length with h1 | h1
    · exact hall j h1
    · rw [List.getElem?_eq_none h1, List.getElem?_eq_none (by omega)]
end Go.Proofs.Ytglelcgllodhoaa.Cu
