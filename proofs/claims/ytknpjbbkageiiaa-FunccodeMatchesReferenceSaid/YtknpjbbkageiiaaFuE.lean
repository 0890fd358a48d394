/- Functions of machines: runs of moves, counted by the reference. -/
import Derived.Test.YtknpjbbkageiiaaFuC
import Derived.Test.YtknpjbbkageiiaaSXg
namespace Go.Proofs.Ytknpjbbkageiiaa.Cu
open Go Go.SX Go.Proofs.Ytknpjbbkageiiaa.VT
set_option maxRecDepth 100000
set_option linter.unusedVariables false
set_option linter.unusedSimpArgs false
set_option maxHeartbeats 8000000 in
theorem moves8_fn (G : Gh) (A : Option Addr) (c : Nat) (l : List Mac) (hl : kMac.S G A c l) (h65 : l.length = 65) :
    Ct Try.prog 93 [.v (.slice A l.length c)] [] G fun sv H' G' => ∃ r : Int, sv = .v (.int .i64 r) ∧ (r > 64 ↔ ∀ (j : Nat) (x : Mac), l[j]? = some x → x.op = 18) ∧ H' = [] ∧ G' = G := by
  refine fn_of follows [] Try.func93 rfl rfl fun E hE => ?_
  have hcap := hl.cap
  repeat' ((fail_if_success with_reducible refine Stop.mk ?_); (conv => whnf); with_reducible first | refine br_t ?_ | refine br_f ?_ | refine br_nn ?_ | refine br_ns ?_ | refine br_not ?_ | refine br_d (fun h => ?_) (fun h => ?_) | refine br_e (fun h => ?_) (fun h => ?_) | refine br_n (fun h => ?_) (fun h => ?_) | refine drw (by kernel_rfl) ?_ | refine chk (by kernel_rfl) ?_ | refine stop ?_)
  all_goals refine Stop.mk ?_
  refine loop_vars follows [] (α := Nat × Int) (fun x => [(3, .v (.int .i64 x.2)), (4, .v (.int .i64 x.1))]) (fun x => []) (fun x => G)
    (fun x => x.1 ≤ 65 ∧ (0 ≤ x.2 ∧ x.2 ≤ 65) ∧ (x.2 > 64 → ∀ (j : Nat) (y : Mac), l[j]? = some y → y.op = 18) ∧ (0 < x.1 → (∀ (j : Nat) (y : Mac), l[j]? = some y → y.op = 18) → x.2 > 64)) (fun x => 65 - x.1) (0, 0)
    ⟨Nat.zero_le _, ⟨Int.le_refl _, by dsimp only; decide⟩, fun h => absurd h (by dsimp only; decide), fun h => absurd h (Nat.lt_irrefl _)⟩ rfl rfl ?_ ?_
  ·
    refine ⟨?_⟩
    (conv => whnf)
    (repeat' (first | exact trivial | exact .inl rfl | exact .inr rfl | refine And.intro ?_ ?_))
  rintro ⟨i, most⟩ ⟨hi, hm, hall, hsome⟩
  dsimp only at hi hm hall hsome ⊢
  have hw2 : IntKind.i64.wrap ((i : Int) + 1) = ((i + 1 : Nat) : Int) := by rw [i64_in (by omega) (by omega)]; simp
  repeat' ((fail_if_success with_reducible refine Stop.mk ?_); (conv => whnf); with_reducible first | refine br_t ?_ | refine br_f ?_ | refine br_nn ?_ | refine br_ns ?_ | refine br_not ?_ | refine br_d (fun h => ?_) (fun h => ?_) | refine br_e (fun h => ?_) (fun h => ?_) | refine br_n (fun h => ?_) (fun h => ?_) | refine drw (by kernel_rfl) ?_ | refine chk (by kernel_rfl) ?_ | refine stop ?_)
  all_goals refine Stop.mk ?_
  · refine loop_opq fun K1 hK1 => ?_
    refine loop_vars follows [] (α := Nat) (fun n => [(5, .v (.int .i64 n))]) (fun x => []) (fun x => G) (fun n => i + n ≤ 65 ∧ ∀ (j : Nat) (y : Mac), i ≤ j → j < i + n → l[j]? = some y → y.op = 18) (fun n => 65 - n) 0
      ⟨by omega, fun j y h1 h2 => by omega⟩ rfl rfl ?_ ?_
    ·
      refine ⟨?_⟩
      (conv => whnf)
      (repeat' (first | exact trivial | exact .inl rfl | exact .inr rfl | refine And.intro ?_ ?_))
    intro n hN
    obtain ⟨hn, hrun⟩ := hN
    have hw3 : IntKind.i64.wrap ((n : Int) + 1) = ((n + 1 : Nat) : Int) := by rw [i64_in (by omega) (by omega)]; simp
    have hw4 : IntKind.i64.wrap ((i : Int) + (n : Int)) = ((i + n : Nat) : Int) := by rw [i64_in (by omega) (by omega)]; simp
    have hdone : (i + n = 65 ∨ ∃ y : Mac, l[i + n]? = some y ∧ y.op ≠ 18) → (((n : Int) > most → (n : Int) > 64 → ∀ (j : Nat) (y : Mac), l[j]? = some y → y.op = 18) ∧ ((∀ (j : Nat) (y : Mac), l[j]? = some y → y.op = 18) → (n : Int) > 64 ∨ 0 < i)) := by
      intro hd
      refine ⟨fun _ h9 j y hy => ?_, fun h9 => ?_⟩
      · have hj : j < 65 := by have := (List.getElem?_eq_some_iff.1 hy).1; omega
        exact hrun j y (by omega) (by omega) hy
      · rcases hd with hd | ⟨y, hy, hne⟩
        · by_cases h0 : 0 < i
          · exact .inr h0
          · exact .inl (by omega)
        · exact absurd (h9 _ y hy) hne
    repeat' ((fail_if_success with_reducible refine Stop.mk ?_); (conv => whnf); with_reducible first | refine br_t ?_ | refine br_f ?_ | refine br_nn ?_ | refine br_ns ?_ | refine br_not ?_ | refine br_d (fun h => ?_) (fun h => ?_) | refine br_e (fun h => ?_) (fun h => ?_) | refine br_n (fun h => ?_) (fun h => ?_) | refine drw (by kernel_rfl) ?_ | refine chk (by kernel_rfl) ?_ | refine stop ?_)
    all_goals refine Stop.mk ?_
    all_goals try rw [hw4] at h ⊢
    · obtain ⟨z, hz⟩ : ∃ z, z = i + n := ⟨_, rfl⟩
      rw [← hz]
      obtain ⟨_, hs_, hat_⟩ := hl.at (sz := 7) rfl
      refine ⟨⟨by omega, by omega⟩, _, hs_, fun ad had => ?_⟩
      obtain ⟨y, cells, hy, hRy, hGy⟩ := hat_ z (by omega) ad (by first | exact had | (rw [Int.toNat_natCast] at had; exact had))
      clear had hat_ hs_
      obtain ⟨rfl, hyok⟩ := hRy
      repeat' ((fail_if_success with_reducible refine Stop.mk ?_); (conv => whnf); with_reducible first | refine br_t ?_ | refine br_f ?_ | refine br_nn ?_ | refine br_ns ?_ | refine br_not ?_ | refine br_d (fun h => ?_) (fun h => ?_) | refine br_e (fun h => ?_) (fun h => ?_) | refine br_n (fun h => ?_) (fun h => ?_) | refine drw (by kernel_rfl) ?_ | refine chk (by kernel_rfl) ?_ | refine stop ?_)
      all_goals refine Stop.mk ?_
      refine ⟨_, hGy 0 _ rfl, ?_⟩
      repeat' ((fail_if_success with_reducible refine Stop.mk ?_); (conv => whnf); with_reducible first | refine br_t ?_ | refine br_f ?_ | refine br_nn ?_ | refine br_ns ?_ | refine br_not ?_ | refine br_d (fun h => ?_) (fun h => ?_) | refine br_e (fun h => ?_) (fun h => ?_) | refine br_n (fun h => ?_) (fun h => ?_) | refine drw (by kernel_rfl) ?_ | refine chk (by kernel_rfl) ?_ | refine stop ?_)
      all_goals refine Stop.mk ?_
      · have h18 : y.op = 18 := by assumption
        rw [hw3]
        refine tell_here ⟨n + 1, ⟨by omega, fun j x h1 h2 hx => ?_⟩, by show 65 - (n + 1) < 65 - n; omega, rfl, rfl, ?_⟩
        · rcases Nat.lt_or_ge j (i + n) with h3 | h3
          · exact hrun j x h1 h3 hx
          · have h4 : j = z := by omega
            subst h4
            rw [hy] at hx
            simp at hx; subst hx; exact h18
        ·
          refine ⟨?_⟩
          (conv => whnf)
          (repeat' (first | exact trivial | exact .inl rfl | exact .inr rfl | refine And.intro ?_ ?_))
      · obtain ⟨hd1, hd2⟩ := hdone (by first | exact .inl (by omega) | exact .inr ⟨y, by rw [← hz]; exact hy, by assumption⟩)
        refine Stop.mk (hK1 _ _ ?_)
        clear hK1
        repeat' ((fail_if_success with_reducible refine Stop.mk ?_); (conv => whnf); with_reducible first | refine br_t ?_ | refine br_f ?_ | refine br_nn ?_ | refine br_ns ?_ | refine br_not ?_ | refine br_d (fun h => ?_) (fun h => ?_) | refine br_e (fun h => ?_) (fun h => ?_) | refine br_n (fun h => ?_) (fun h => ?_) | refine drw (by kernel_rfl) ?_ | refine chk (by kernel_rfl) ?_ | refine stop ?_)
        all_goals refine Stop.mk ?_
        all_goals rw [hw2]
        · have hgt : (n : Int) > most := by omega
          refine tell_here ⟨(i + 1, (n : Int)), ⟨by show i + 1 ≤ 65; omega, ⟨by dsimp only; omega, by dsimp only; omega⟩, fun h9 => hd1 hgt h9, fun _ h9 => ?_⟩, by show 65 - (i + 1) < 65 - i; omega, rfl, rfl, ?_⟩
          · rcases hd2 h9 with h8 | h8
            · exact h8
            · have := hsome h8 h9
              dsimp only; omega
          ·
            refine ⟨?_⟩
            (conv => whnf)
            (repeat' (first | exact trivial | exact .inl rfl | exact .inr rfl | refine And.intro ?_ ?_))
        · have hle : ¬ (n : Int) > most := by omega
          refine tell_here ⟨(i + 1, most), ⟨by show i + 1 ≤ 65; omega, hm, hall, fun _ h9 => ?_⟩, by show 65 - (i + 1) < 65 - i; omega, rfl, rfl, ?_⟩
          · rcases hd2 h9 with h8 | h8
            · dsimp only; omega
            · exact hsome h8 h9
          ·
            refine ⟨?_⟩
            (conv => whnf)
            (repeat' (first | exact trivial | exact .inl rfl | exact .inr rfl | refine And.intro ?_ ?_))
    · obtain ⟨hd1, hd2⟩ := hdone (by first | exact .inl (by omega))
      refine Stop.mk (hK1 _ _ ?_)
      clear hK1
      repeat' ((fail_if_success with_reducible refine Stop.mk ?_); (conv => whnf); with_reducible first | refine br_t ?_ | refine br_f ?_ | refine br_nn ?_ | refine br_ns ?_ | refine br_not ?_ | refine br_d (fun h => ?_) (fun h => ?_) | refine br_e (fun h => ?_) (fun h => ?_) | refine br_n (fun h => ?_) (fun h => ?_) | refine drw (by kernel_rfl) ?_ | refine chk (by kernel_rfl) ?_ | refine stop ?_)
      all_goals refine Stop.mk ?_
      all_goals rw [hw2]
      · have hgt : (n : Int) > most := by omega
        refine tell_here ⟨(i + 1, (n : Int)), ⟨by show i + 1 ≤ 65; omega, ⟨by dsimp only; omega, by dsimp only; omega⟩, fun h9 => hd1 hgt h9, fun _ h9 => ?_⟩, by show 65 - (i + 1) < 65 - i; omega, rfl, rfl, ?_⟩
        · rcases hd2 h9 with h8 | h8
          · exact h8
          · have := hsome h8 h9
            dsimp only; omega
        ·
          refine ⟨?_⟩
          (conv => whnf)
          (repeat' (first | exact trivial | exact .inl rfl | exact .inr rfl | refine And.intro ?_ ?_))
      · have hle : ¬ (n : Int) > most := by omega
        refine tell_here ⟨(i + 1, most), ⟨by show i + 1 ≤ 65; omega, hm, hall, fun _ h9 => ?_⟩, by show 65 - (i + 1) < 65 - i; omega, rfl, rfl, ?_⟩
        · rcases hd2 h9 with h8 | h8
          · dsimp only; omega
          · exact hsome h8 h9
        ·
          refine ⟨?_⟩
          (conv => whnf)
          (repeat' (first | exact trivial | exact .inl rfl | exact .inr rfl | refine And.intro ?_ ?_))
  · have hii : i = 65 := by omega
    subst hii
    exact fin_all ⟨most, rfl, ⟨hall, fun h => hsome (by omega) h⟩, rfl, rfl⟩
end Go.Proofs.Ytknpjbbkageiiaa.Cu
