/- The law's own check. -/
import Derived.Test.YtihnbkoeaaepiaaCu6
namespace Go.Proofs.Ytihnbkoeaaepiaa.Cu
open Go Go.SX Go.Proofs.Ytihnbkoeaaepiaa.VT
set_option maxRecDepth 100000
set_option linter.unusedVariables false
set_option linter.unusedSimpArgs false

theorem SlB.of {G : Gh} {A : Option Addr} {n c sz : Nat} {xs : List Value} (l : List Int) (h : Sl G A n c sz xs) (h1 : n = l.length) (h2 : sz = 1) (h3 : xs = byts l) : SlB G A c l := by subst h1 h2 h3; exact h
theorem SlB.to {G G' : Gh} {A : Option Addr} {c : Nat} {l : List Int} (h : SlB G A c l) (hg : Ghe G G') : SlB G' A c l :=
  ⟨h.len, h.cap, h.top, fun ad had j v hj => by
    have := h.there ad had j v hj
    unfold Gcell at this ⊢
    split at this <;> rename_i hx
    · rw [hg _ _ hx]; exact this
    · simp at this, h.nil, h.ones⟩
instance (l : List Int) : Decidable (isB l) := inferInstanceAs (Decidable (∀ x ∈ l, 0 ≤ x ∧ x ≤ 255))
def b1 : List Int := [172, 2, 5]
def b2 : List Int := [2, 0, 0, 0]
theorem b1_is : isB b1 := by decide
theorem b2_is : isB b2 := by decide
theorem awake_fn (G : Gh) : Ct Try.prog 12 [] [] G fun sv H' G' => sv = .v (.bool true) ∧ H' = [] := by
  refine fn_of follows [] Try.func12 rfl rfl fun E hE => ?_
  repeat' ((fail_if_success with_reducible refine Stop.mk ?_); (conv => whnf); with_reducible first | refine br_t ?_ | refine br_f ?_ | refine br_nn ?_ | refine br_ns ?_ | refine br_not ?_ | refine br_d (fun h => ?_) (fun h => ?_) | refine br_e (fun h => ?_) (fun h => ?_) | refine br_n (fun h => ?_) (fun h => ?_) | refine drw (by kernel_rfl) ?_ | refine chk (by kernel_rfl) ?_ | refine stop ?_)
  all_goals refine Stop.mk ?_
  refine call_done 0 rfl (by simp [Value.oneCell']) (fun A c G2 hg hs => call_fn [] (new_fn G2 A b1 c (SlB.of b1 hs rfl rfl rfl) (by decide)) rfl trivial (by decide) ?_) (new_fn G none [] 0 (slB_nil _) (by decide)).enters
  clear hg hs
  rintro sv H' G1 ⟨A1, c1, rfl, rfl, hs1⟩ -
  refine ⟨by simp, ?_⟩
  repeat' ((fail_if_success with_reducible refine Stop.mk ?_); (conv => whnf); with_reducible first | refine br_t ?_ | refine br_f ?_ | refine br_nn ?_ | refine br_ns ?_ | refine br_not ?_ | refine br_d (fun h => ?_) (fun h => ?_) | refine br_e (fun h => ?_) (fun h => ?_) | refine br_n (fun h => ?_) (fun h => ?_) | refine drw (by kernel_rfl) ?_ | refine chk (by kernel_rfl) ?_ | refine stop ?_)
  all_goals refine Stop.mk ?_
  refine call_done 2 rfl (by simp [Value.oneCell']) (fun A c G2 hg hs => call_fn [] (new_fn G2 A b1 c (SlB.of b1 hs rfl rfl rfl) (by decide)) rfl trivial (by decide) ?_) (new_fn G none [] 0 (slB_nil _) (by decide)).enters
  rintro sv H' G3 ⟨A2, c2, rfl, rfl, hs2⟩ hg2
  replace hs1 := (hs1.to hg).to hg2
  clear hg hs hg2
  refine ⟨by simp, ?_⟩
  repeat' ((fail_if_success with_reducible refine Stop.mk ?_); (conv => whnf); with_reducible first | refine br_t ?_ | refine br_f ?_ | refine br_nn ?_ | refine br_ns ?_ | refine br_not ?_ | refine br_d (fun h => ?_) (fun h => ?_) | refine br_e (fun h => ?_) (fun h => ?_) | refine br_n (fun h => ?_) (fun h => ?_) | refine drw (by kernel_rfl) ?_ | refine chk (by kernel_rfl) ?_ | refine stop ?_)
  all_goals refine Stop.mk ?_
  refine call_done 4 rfl (by simp [Value.oneCell']) (fun A c G2 hg hs => call_fn [] (new_fn G2 A b2 c (SlB.of b2 hs rfl rfl rfl) (by decide)) rfl trivial (by decide) ?_) (new_fn G none [] 0 (slB_nil _) (by decide)).enters
  rintro sv H' G4 ⟨A3, c3, rfl, rfl, hs3⟩ hg2
  replace hs1 := (hs1.to hg).to hg2
  replace hs2 := (hs2.to hg).to hg2
  clear hg hs hg2
  refine ⟨by simp, ?_⟩
  repeat' ((fail_if_success with_reducible refine Stop.mk ?_); (conv => whnf); with_reducible first | refine br_t ?_ | refine br_f ?_ | refine br_nn ?_ | refine br_ns ?_ | refine br_not ?_ | refine br_d (fun h => ?_) (fun h => ?_) | refine br_e (fun h => ?_) (fun h => ?_) | refine br_n (fun h => ?_) (fun h => ?_) | refine drw (by kernel_rfl) ?_ | refine chk (by kernel_rfl) ?_ | refine stop ?_)
  all_goals refine Stop.mk ?_
  refine call_fn [1] (uint_fn _ A1 b1 c1 0 0 300 b1_is hs1 (by decide)) rfl ⟨rfl, trivial⟩ (by decide) ?_
  rintro sv H' G' ⟨rfl, rfl, rfl⟩ hg
  clear hg
  rw [show cUint b1 0 0 300 = (300, 2, 0) by decide]
  refine ⟨by simp [wrH], ?_⟩
  repeat' ((fail_if_success with_reducible refine Stop.mk ?_); (conv => whnf); with_reducible first | refine br_t ?_ | refine br_f ?_ | refine br_nn ?_ | refine br_ns ?_ | refine br_not ?_ | refine br_d (fun h => ?_) (fun h => ?_) | refine br_e (fun h => ?_) (fun h => ?_) | refine br_n (fun h => ?_) (fun h => ?_) | refine drw (by kernel_rfl) ?_ | refine chk (by kernel_rfl) ?_ | refine stop ?_)
  all_goals refine Stop.mk ?_
  refine call_fn [1] (byte_fn _ A1 b1 c1 2 0 b1_is hs1 (by decide)) rfl ⟨rfl, trivial⟩ (by decide) ?_
  rintro sv H' G' ⟨rfl, rfl, rfl⟩ hg
  clear hg
  rw [show cByte b1 2 0 = (5, 3, 0) by decide]
  refine ⟨by simp [wrH], ?_⟩
  repeat' ((fail_if_success with_reducible refine Stop.mk ?_); (conv => whnf); with_reducible first | refine br_t ?_ | refine br_f ?_ | refine br_nn ?_ | refine br_ns ?_ | refine br_not ?_ | refine br_d (fun h => ?_) (fun h => ?_) | refine br_e (fun h => ?_) (fun h => ?_) | refine br_n (fun h => ?_) (fun h => ?_) | refine drw (by kernel_rfl) ?_ | refine chk (by kernel_rfl) ?_ | refine stop ?_)
  all_goals refine Stop.mk ?_
  refine call_fn [1] (byte_fn _ A1 b1 c1 3 0 b1_is hs1 (by decide)) rfl ⟨rfl, trivial⟩ (by decide) ?_
  rintro sv H' G' ⟨rfl, rfl, rfl⟩ hg
  clear hg
  rw [show cByte b1 3 0 = (0, 3, 1) by decide]
  refine ⟨by simp [wrH], ?_⟩
  repeat' ((fail_if_success with_reducible refine Stop.mk ?_); (conv => whnf); with_reducible first | refine br_t ?_ | refine br_f ?_ | refine br_nn ?_ | refine br_ns ?_ | refine br_not ?_ | refine br_d (fun h => ?_) (fun h => ?_) | refine br_e (fun h => ?_) (fun h => ?_) | refine br_n (fun h => ?_) (fun h => ?_) | refine drw (by kernel_rfl) ?_ | refine chk (by kernel_rfl) ?_ | refine stop ?_)
  all_goals refine Stop.mk ?_
  refine call_fn [3] (uint_fn _ A2 b1 c2 0 0 299 b1_is hs2 (by decide)) rfl ⟨rfl, trivial⟩ (by decide) ?_
  rintro sv H' G' ⟨rfl, rfl, rfl⟩ hg
  clear hg
  rw [show cUint b1 0 0 299 = (0, 0, 6) by decide]
  refine ⟨by simp [wrH], ?_⟩
  repeat' ((fail_if_success with_reducible refine Stop.mk ?_); (conv => whnf); with_reducible first | refine br_t ?_ | refine br_f ?_ | refine br_nn ?_ | refine br_ns ?_ | refine br_not ?_ | refine br_d (fun h => ?_) (fun h => ?_) | refine br_e (fun h => ?_) (fun h => ?_) | refine br_n (fun h => ?_) (fun h => ?_) | refine drw (by kernel_rfl) ?_ | refine chk (by kernel_rfl) ?_ | refine stop ?_)
  all_goals refine Stop.mk ?_
  refine call_fn [5] (count_fn _ A3 b2 c3 0 0 10 2 b2_is hs3 (by decide) (by decide) (by decide)) rfl ⟨rfl, trivial⟩ (by decide) ?_
  rintro sv H' G' ⟨rfl, rfl, rfl⟩ hg
  clear hg
  rw [show cCount b2 0 0 10 2 = (0, 0, 1) by decide]
  refine ⟨by simp [wrH], ?_⟩
  repeat' ((fail_if_success with_reducible refine Stop.mk ?_); (conv => whnf); with_reducible first | refine br_t ?_ | refine br_f ?_ | refine br_nn ?_ | refine br_ns ?_ | refine br_not ?_ | refine br_d (fun h => ?_) (fun h => ?_) | refine br_e (fun h => ?_) (fun h => ?_) | refine br_n (fun h => ?_) (fun h => ?_) | refine drw (by kernel_rfl) ?_ | refine chk (by kernel_rfl) ?_ | refine stop ?_)
  all_goals refine Stop.mk ?_
  refine call_fn [6] (wint0_fn _ (-1) (by decide) (by decide)) rfl ⟨rfl, trivial⟩ (by decide) ?_
  rintro sv H' G' ⟨rfl, rfl⟩ hg
  replace hs1 := hs1.to hg
  replace hs2 := hs2.to hg
  replace hs3 := hs3.to hg
  clear hg
  rw [show putB (zig (-1)).toNat = [1] by decide]
  refine ⟨by simp [wrH], ?_⟩
  repeat' ((fail_if_success with_reducible refine Stop.mk ?_); (conv => whnf); with_reducible first | refine br_t ?_ | refine br_f ?_ | refine br_nn ?_ | refine br_ns ?_ | refine br_not ?_ | refine br_d (fun h => ?_) (fun h => ?_) | refine br_e (fun h => ?_) (fun h => ?_) | refine br_n (fun h => ?_) (fun h => ?_) | refine drw (by kernel_rfl) ?_ | refine chk (by kernel_rfl) ?_ | refine stop ?_)
  all_goals refine Stop.mk ?_
  refine call_fn [6, 7] (wuint_fn _ 300 [1] (by decide) (by decide)) rfl ⟨rfl, rfl, trivial⟩ (by decide) ?_
  rintro sv H' G' ⟨rfl, rfl⟩ hg
  replace hs1 := hs1.to hg
  replace hs2 := hs2.to hg
  replace hs3 := hs3.to hg
  clear hg
  rw [show [1] ++ putB 300 = [1, 172, 2] by decide]
  refine ⟨by simp [wrH], ?_⟩
  repeat' ((fail_if_success with_reducible refine Stop.mk ?_); (conv => whnf); with_reducible first | refine br_t ?_ | refine br_f ?_ | refine br_nn ?_ | refine br_ns ?_ | refine br_not ?_ | refine br_d (fun h => ?_) (fun h => ?_) | refine br_e (fun h => ?_) (fun h => ?_) | refine br_n (fun h => ?_) (fun h => ?_) | refine drw (by kernel_rfl) ?_ | refine chk (by kernel_rfl) ?_ | refine stop ?_)
  all_goals refine Stop.mk ?_
  all_goals try (rename_i h; exact absurd (by decide) h)
  refine call_fn [1] (err_fn _ A1 b1.length c1 (3 : Nat) 1) rfl ⟨rfl, trivial⟩ (by decide) ?_
  rintro sv H' G' ⟨rfl, rfl, rfl⟩ -
  refine ⟨by simp [wrH], ?_⟩
  repeat' ((fail_if_success with_reducible refine Stop.mk ?_); (conv => whnf); with_reducible first | refine br_t ?_ | refine br_f ?_ | refine br_nn ?_ | refine br_ns ?_ | refine br_not ?_ | refine br_d (fun h => ?_) (fun h => ?_) | refine br_e (fun h => ?_) (fun h => ?_) | refine br_n (fun h => ?_) (fun h => ?_) | refine drw (by kernel_rfl) ?_ | refine chk (by kernel_rfl) ?_ | refine stop ?_)
  all_goals refine Stop.mk ?_
  all_goals try (rename_i h; exact absurd (by decide) h)
  refine call_fn [3] (err_fn _ A2 b1.length c2 (0 : Nat) 6) rfl ⟨rfl, trivial⟩ (by decide) ?_
  rintro sv H' G' ⟨rfl, rfl, rfl⟩ -
  refine ⟨by simp [wrH], ?_⟩
  repeat' ((fail_if_success with_reducible refine Stop.mk ?_); (conv => whnf); with_reducible first | refine br_t ?_ | refine br_f ?_ | refine br_nn ?_ | refine br_ns ?_ | refine br_not ?_ | refine br_d (fun h => ?_) (fun h => ?_) | refine br_e (fun h => ?_) (fun h => ?_) | refine br_n (fun h => ?_) (fun h => ?_) | refine drw (by kernel_rfl) ?_ | refine chk (by kernel_rfl) ?_ | refine stop ?_)
  all_goals refine Stop.mk ?_
  all_goals try (rename_i h; exact absurd (by decide) h)
  refine call_fn [5] (err_fn _ A3 b2.length c3 (0 : Nat) 1) rfl ⟨rfl, trivial⟩ (by decide) ?_
  rintro sv H' G' ⟨rfl, rfl, rfl⟩ -
  refine ⟨by simp [wrH], ?_⟩
  repeat' ((fail_if_success with_reducible refine Stop.mk ?_); (conv => whnf); with_reducible first | refine br_t ?_ | refine br_f ?_ | refine br_nn ?_ | refine br_ns ?_ | refine br_not ?_ | refine br_d (fun h => ?_) (fun h => ?_) | refine br_e (fun h => ?_) (fun h => ?_) | refine br_n (fun h => ?_) (fun h => ?_) | refine drw (by kernel_rfl) ?_ | refine chk (by kernel_rfl) ?_ | refine stop ?_)
  all_goals refine Stop.mk ?_
  all_goals try (rename_i h; exact absurd (by decide) h)
  refine call_fn [] (errN_fn _) rfl trivial (by decide) ?_
  rintro sv H' G' ⟨rfl, rfl, rfl⟩ -
  refine ⟨by simp [wrH], ?_⟩
  repeat' ((fail_if_success with_reducible refine Stop.mk ?_); (conv => whnf); with_reducible first | refine br_t ?_ | refine br_f ?_ | refine br_nn ?_ | refine br_ns ?_ | refine br_not ?_ | refine br_d (fun h => ?_) (fun h => ?_) | refine br_e (fun h => ?_) (fun h => ?_) | refine br_n (fun h => ?_) (fun h => ?_) | refine drw (by kernel_rfl) ?_ | refine chk (by kernel_rfl) ?_ | refine stop ?_)
  all_goals refine Stop.mk ?_
  all_goals try (rename_i h; exact absurd (by decide) h)
  refine call_fn [] (byteN_fn _) rfl trivial (by decide) ?_
  rintro sv H' G' ⟨rfl, rfl, rfl⟩ -
  refine ⟨by simp [wrH], ?_⟩
  repeat' ((fail_if_success with_reducible refine Stop.mk ?_); (conv => whnf); with_reducible first | refine br_t ?_ | refine br_f ?_ | refine br_nn ?_ | refine br_ns ?_ | refine br_not ?_ | refine br_d (fun h => ?_) (fun h => ?_) | refine br_e (fun h => ?_) (fun h => ?_) | refine br_n (fun h => ?_) (fun h => ?_) | refine drw (by kernel_rfl) ?_ | refine chk (by kernel_rfl) ?_ | refine stop ?_)
  all_goals refine Stop.mk ?_
  all_goals try (rename_i h; exact absurd (by decide) h)
  refine call_fn [1] (at_fn _ A1 b1.length c1 (3 : Nat) 1) rfl ⟨rfl, trivial⟩ (by decide) ?_
  rintro sv H' G' ⟨rfl, rfl, rfl⟩ -
  refine ⟨by simp [wrH], ?_⟩
  repeat' ((fail_if_success with_reducible refine Stop.mk ?_); (conv => whnf); with_reducible first | refine br_t ?_ | refine br_f ?_ | refine br_nn ?_ | refine br_ns ?_ | refine br_not ?_ | refine br_d (fun h => ?_) (fun h => ?_) | refine br_e (fun h => ?_) (fun h => ?_) | refine br_n (fun h => ?_) (fun h => ?_) | refine drw (by kernel_rfl) ?_ | refine chk (by kernel_rfl) ?_ | refine stop ?_)
  all_goals refine Stop.mk ?_
  all_goals try (rename_i h; exact absurd (by decide) h)
  refine call_fn [1] (left_fn _ A1 b1.length c1 (3 : Nat) 1 (by decide) (by decide) (by decide)) rfl ⟨rfl, trivial⟩ (by decide) ?_
  rintro sv H' G' ⟨rfl, rfl, rfl⟩ -
  refine ⟨by simp [wrH], ?_⟩
  repeat' ((fail_if_success with_reducible refine Stop.mk ?_); (conv => whnf); with_reducible first | refine br_t ?_ | refine br_f ?_ | refine br_nn ?_ | refine br_ns ?_ | refine br_not ?_ | refine br_d (fun h => ?_) (fun h => ?_) | refine br_e (fun h => ?_) (fun h => ?_) | refine br_n (fun h => ?_) (fun h => ?_) | refine drw (by kernel_rfl) ?_ | refine chk (by kernel_rfl) ?_ | refine stop ?_)
  all_goals refine Stop.mk ?_
  all_goals try (rename_i h; exact absurd (by decide) h)
  refine call_fn [6, 7] (wout_fn _ [1, 172, 2] (by decide)) rfl ⟨rfl, rfl, trivial⟩ (by decide) ?_
  rintro sv H' G' ⟨rfl, rfl, rfl⟩ -
  refine ⟨by simp [wrH], ?_⟩
  repeat' ((fail_if_success with_reducible refine Stop.mk ?_); (conv => whnf); with_reducible first | refine br_t ?_ | refine br_f ?_ | refine br_nn ?_ | refine br_ns ?_ | refine br_not ?_ | refine br_d (fun h => ?_) (fun h => ?_) | refine br_e (fun h => ?_) (fun h => ?_) | refine br_n (fun h => ?_) (fun h => ?_) | refine drw (by kernel_rfl) ?_ | refine chk (by kernel_rfl) ?_ | refine stop ?_)
  all_goals refine Stop.mk ?_
  all_goals try (rename_i h; exact absurd (by decide) h)
  refine call_done 8 rfl (byts_one _) (fun X x GX hgx hx => call_done 9 rfl (by simp [Value.oneCell']) (fun Y y GY hgy hy => call_fn [] (same_fn GY X Y x y [1, 172, 2] [1, 172, 2] ((SlB.of [1, 172, 2] hx rfl rfl rfl).to hgy) (SlB.of [1, 172, 2] hy rfl rfl rfl)) rfl trivial (by decide) ?_) (same_fn G none none 0 0 [] [] (slB_nil _) (slB_nil _)).enters) (same_fn G none none 0 0 [] [] (slB_nil _) (slB_nil _)).enters
  rintro sv H' G' ⟨rfl, rfl, rfl⟩ -
  refine ⟨by simp, ?_⟩
  repeat' ((fail_if_success with_reducible refine Stop.mk ?_); (conv => whnf); with_reducible first | refine br_t ?_ | refine br_f ?_ | refine br_nn ?_ | refine br_ns ?_ | refine br_not ?_ | refine br_d (fun h => ?_) (fun h => ?_) | refine br_e (fun h => ?_) (fun h => ?_) | refine br_n (fun h => ?_) (fun h => ?_) | refine drw (by kernel_rfl) ?_ | refine chk (by kernel_rfl) ?_ | refine stop ?_)
  all_goals refine Stop.mk ?_
  exact fin_id hE 0 rfl rfl rfl rfl ⟨rfl, rfl⟩

end Go.Proofs.Ytihnbkoeaaepiaa.Cu
