/- Machines: the longest run of moves, by the reference and by the program. -/
import Derived.Test.YtihnbkoeaaepiaaMa2
namespace Go.Proofs.Ytihnbkoeaaepiaa.Cu
open Go Go.SX Go.Proofs.Ytihnbkoeaaepiaa.VT
set_option maxRecDepth 100000
set_option linter.unusedVariables false
set_option linter.unusedSimpArgs false
/-- n moves one after the other, from i on. -/
def runAt (l : List Mac) (i n : Nat) : Prop := i + n ≤ l.length ∧ ∀ (j : Nat) (x : Mac), i ≤ j → j < i + n → l[j]? = some x → x.op = 18
def hasRun (l : List Mac) (n : Nat) : Prop := ∃ i, runAt l i n
/-- The length of the longest run. -/
def Longest (l : List Mac) (r : Int) : Prop := 0 ≤ r ∧ ∀ n : Nat, (n : Int) ≤ r ↔ hasRun l n
theorem Longest.uniq {l : List Mac} {r s : Int} (h : Longest l r) (h' : Longest l s) : r = s := by
  have h1 := (h.2 r.toNat).1 (by have := h.1; omega)
  have h2 := (h'.2 r.toNat).2 h1
  have h3 := (h'.2 s.toNat).1 (by have := h'.1; omega)
  have h4 := (h.2 s.toNat).2 h3
  have := h.1
  have := h'.1
  omega
theorem runAt.less {l : List Mac} {i n m : Nat} (h : runAt l i n) (hm : m ≤ n) : runAt l i m := ⟨by have := h.1; omega, fun j x h1 h2 hx => h.2 j x h1 (by omega) hx⟩
set_option maxHeartbeats 8000000 in
theorem rMovesE_fn (G : Gh) (A : Option Addr) (c : Nat) (l : List Mac) (hl : kMac.S G A c l) :
    Ct Try.prog 35 [.v (.slice A l.length c)] [] G fun sv H' G' => ∃ r : Int, sv = .v (.int .i64 r) ∧ Longest l r ∧ H' = [] ∧ G' = G := by
  refine fn_of follows [] Try.func35 rfl rfl fun E hE => ?_
  have hcap := hl.cap
  repeat' ((fail_if_success with_reducible refine Stop.mk ?_); (conv => whnf); with_reducible first | refine br_t ?_ | refine br_f ?_ | refine br_nn ?_ | refine br_ns ?_ | refine br_not ?_ | refine br_d (fun h => ?_) (fun h => ?_) | refine br_e (fun h => ?_) (fun h => ?_) | refine br_n (fun h => ?_) (fun h => ?_) | refine drw (by kernel_rfl) ?_ | refine chk (by kernel_rfl) ?_ | refine stop ?_)
  all_goals refine Stop.mk ?_
  refine loop_vars follows [] (α := Nat × Nat) (fun x => [(3, .v (.int .i64 x.2)), (4, .v (.int .i64 x.1))]) (fun x => []) (fun x => G)
    (fun x => x.1 ≤ l.length ∧ x.2 ≤ l.length ∧ hasRun l x.2 ∧ ∀ i n, i < x.1 → runAt l i n → n ≤ x.2) (fun x => l.length - x.1) (0, 0)
    ⟨Nat.zero_le _, Nat.zero_le _, ⟨0, by simp, fun j x _ h => by omega⟩, fun i n h => absurd h (Nat.not_lt_zero _)⟩ rfl rfl ?_ ?_
  ·
    refine ⟨?_⟩
    (conv => whnf)
    (repeat' (first | exact trivial | exact .inl rfl | exact .inr rfl | refine And.intro ?_ ?_))
  rintro ⟨i, most⟩ ⟨hi, hm, hall, hsome⟩
  dsimp only at hi hm hall hsome ⊢
  repeat' ((fail_if_success with_reducible refine Stop.mk ?_); (conv => whnf); with_reducible first | refine br_t ?_ | refine br_f ?_ | refine br_nn ?_ | refine br_ns ?_ | refine br_not ?_ | refine br_d (fun h => ?_) (fun h => ?_) | refine br_e (fun h => ?_) (fun h => ?_) | refine br_n (fun h => ?_) (fun h => ?_) | refine drw (by kernel_rfl) ?_ | refine chk (by kernel_rfl) ?_ | refine stop ?_)
  all_goals refine Stop.mk ?_
  · have hil : i < l.length := by omega
    have hw2 : IntKind.i64.wrap ((i : Int) + 1) = ((i + 1 : Nat) : Int) := by rw [i64_in (by omega) (by omega)]; simp
    refine loop_opq fun K1 hK1 => ?_
    refine loop_vars follows [] (α := Nat) (fun n => [(5, .v (.int .i64 n))]) (fun x => []) (fun x => G) (fun n => runAt l i n) (fun n => l.length - n) 0
      ⟨by omega, fun j y h1 h2 => by omega⟩ rfl rfl ?_ ?_
    ·
      refine ⟨?_⟩
      (conv => whnf)
      (repeat' (first | exact trivial | exact .inl rfl | exact .inr rfl | refine And.intro ?_ ?_))
    intro n hN
    have hn := hN.1
    have hw4 : IntKind.i64.wrap ((i : Int) + (n : Int)) = ((i + n : Nat) : Int) := by rw [i64_in (by omega) (by omega)]; simp
    have hdone : (i + n = l.length ∨ ∃ y : Mac, l[i + n]? = some y ∧ y.op ≠ 18) → ∀ m, runAt l i m → m ≤ n := by
      intro hd m hm
      rcases hd with hd | ⟨y, hy, hne⟩
      · have := hm.1; omega
      · by_cases hmn : m ≤ n
        · exact hmn
        · exact absurd (hm.2 _ y (by omega) (by omega) hy) hne
    have hstep : ∀ b : Nat, (∀ m, runAt l i m → m ≤ n) → most ≤ b → n ≤ b → ∀ i' n', i' < i + 1 → runAt l i' n' → n' ≤ b := by
      intro b h1 h2 h3 i' n' h4 h5
      rcases Nat.lt_or_ge i' i with h6 | h6
      · have := hsome i' n' h6 h5; omega
      · have : i' = i := by omega
        subst this
        have := h1 n' h5; omega
    repeat' ((fail_if_success with_reducible refine Stop.mk ?_); (conv => whnf); with_reducible first | refine br_t ?_ | refine br_f ?_ | refine br_nn ?_ | refine br_ns ?_ | refine br_not ?_ | refine br_d (fun h => ?_) (fun h => ?_) | refine br_e (fun h => ?_) (fun h => ?_) | refine br_n (fun h => ?_) (fun h => ?_) | refine drw (by kernel_rfl) ?_ | refine chk (by kernel_rfl) ?_ | refine stop ?_)
    all_goals refine Stop.mk ?_
    all_goals try rw [hw4] at h ⊢
    · have hw3 : IntKind.i64.wrap ((n : Int) + 1) = ((n + 1 : Nat) : Int) := by rw [i64_in (by omega) (by omega)]; simp
      obtain ⟨z, hz⟩ : ∃ z, z = i + n := ⟨_, rfl⟩
      rw [← hz]
      obtain ⟨_, hs_, hat_⟩ := hl.at (sz := 7) rfl
      refine ⟨⟨by omega, by omega⟩, _, hs_, fun ad had => ?_⟩
      obtain ⟨y, cells, hy, hRy, hGy⟩ := hat_ z (by omega) ad (by first | exact had | (rw [Int.toNat_natCast] at had; exact had))
      clear had hat_ hs_
      obtain ⟨rfl, hyok⟩ := hRy
      repeat' ((fail_if_success with_reducible refine Stop.mk ?_); (conv => whnf); with_reducible first | refine br_t ?_ | refine br_f ?_ | refine br_nn ?_ | refine br_ns ?_ | refine br_not ?_ | refine br_d (fun h => ?_) (fun h => ?_) | refine br_e (fun h => ?_) (fun h => ?_) | refine br_n (fun h => ?_) (fun h => ?_) | refine drw (by kernel_rfl) ?_ | refine chk (by kernel_rfl) ?_ | refine stop ?_)
      all_goals refine Stop.mk ?_
      refine ⟨_, hGy 0 _ rfl, ?_⟩
      repeat' ((fail_if_success with_reducible refine Stop.mk ?_); (conv => whnf); with_reducible first | refine br_t ?_ | refine br_f ?_ | refine br_nn ?_ | refine br_ns ?_ | refine br_not ?_ | refine br_d (fun h => ?_) (fun h => ?_) | refine br_e (fun h => ?_) (fun h => ?_) | refine br_n (fun h => ?_) (fun h => ?_) | refine drw (by kernel_rfl) ?_ | refine chk (by kernel_rfl) ?_ | refine stop ?_)
      all_goals refine Stop.mk ?_
      · have h18 : y.op = 18 := by assumption
        rw [hw3]
        refine tell_here ⟨n + 1, ⟨by omega, fun j x h1 h2 hx => ?_⟩, by show l.length - (n + 1) < l.length - n; omega, rfl, rfl, ?_⟩
        · rcases Nat.lt_or_ge j (i + n) with h3 | h3
          · exact hN.2 j x h1 h3 hx
          · have h4 : j = z := by omega
            subst h4
            rw [hy] at hx
            simp at hx; subst hx; exact h18
        ·
          refine ⟨?_⟩
          (conv => whnf)
          (repeat' (first | exact trivial | exact .inl rfl | exact .inr rfl | refine And.intro ?_ ?_))
      · have hd := hdone (.inr ⟨y, by rw [← hz]; exact hy, by assumption⟩)
        refine Stop.mk (hK1 _ _ ?_)
        clear hK1
        repeat' ((fail_if_success with_reducible refine Stop.mk ?_); (conv => whnf); with_reducible first | refine br_t ?_ | refine br_f ?_ | refine br_nn ?_ | refine br_ns ?_ | refine br_not ?_ | refine br_d (fun h => ?_) (fun h => ?_) | refine br_e (fun h => ?_) (fun h => ?_) | refine br_n (fun h => ?_) (fun h => ?_) | refine drw (by kernel_rfl) ?_ | refine chk (by kernel_rfl) ?_ | refine stop ?_)
        all_goals refine Stop.mk ?_
        all_goals rw [hw2]
        · refine tell_here ⟨(i + 1, n), ⟨by show i + 1 ≤ _; omega, by show n ≤ _; omega, ⟨i, hN⟩, hstep n hd (by omega) (Nat.le_refl _)⟩, by show l.length - (i + 1) < l.length - i; omega, rfl, rfl, ?_⟩
          refine ⟨?_⟩
          (conv => whnf)
          (repeat' (first | exact trivial | exact .inl rfl | exact .inr rfl | refine And.intro ?_ ?_))
        · refine tell_here ⟨(i + 1, most), ⟨by show i + 1 ≤ _; omega, hm, hall, hstep most hd (Nat.le_refl _) (by omega)⟩, by show l.length - (i + 1) < l.length - i; omega, rfl, rfl, ?_⟩
          refine ⟨?_⟩
          (conv => whnf)
          (repeat' (first | exact trivial | exact .inl rfl | exact .inr rfl | refine And.intro ?_ ?_))
    · have hd := hdone (.inl (by omega))
      refine Stop.mk (hK1 _ _ ?_)
      clear hK1
      repeat' ((fail_if_success with_reducible refine Stop.mk ?_); (conv => whnf); with_reducible first | refine br_t ?_ | refine br_f ?_ | refine br_nn ?_ | refine br_ns ?_ | refine br_not ?_ | refine br_d (fun h => ?_) (fun h => ?_) | refine br_e (fun h => ?_) (fun h => ?_) | refine br_n (fun h => ?_) (fun h => ?_) | refine drw (by kernel_rfl) ?_ | refine chk (by kernel_rfl) ?_ | refine stop ?_)
      all_goals refine Stop.mk ?_
      all_goals rw [hw2]
      · refine tell_here ⟨(i + 1, n), ⟨by show i + 1 ≤ _; omega, by show n ≤ _; omega, ⟨i, hN⟩, hstep n hd (by omega) (Nat.le_refl _)⟩, by show l.length - (i + 1) < l.length - i; omega, rfl, rfl, ?_⟩
        refine ⟨?_⟩
        (conv => whnf)
        (repeat' (first | exact trivial | exact .inl rfl | exact .inr rfl | refine And.intro ?_ ?_))
      · refine tell_here ⟨(i + 1, most), ⟨by show i + 1 ≤ _; omega, hm, hall, hstep most hd (Nat.le_refl _) (by omega)⟩, by show l.length - (i + 1) < l.length - i; omega, rfl, rfl, ?_⟩
        refine ⟨?_⟩
        (conv => whnf)
        (repeat' (first | exact trivial | exact .inl rfl | exact .inr rfl | refine And.intro ?_ ?_))
  · have hkl : i = l.length := by omega
    subst hkl
    refine fin_id hE 0 rfl rfl rfl rfl ⟨_, rfl, ⟨by omega, fun n => ?_⟩, rfl, rfl⟩
    constructor
    · intro h9
      obtain ⟨i, hi⟩ := hall
      exact ⟨i, hi.less (by omega)⟩
    · rintro ⟨i, hi⟩
      cases n with
      | zero => omega
      | succ n =>
        have := hsome i (n + 1) (by have := hi.1; omega) hi
        omega
theorem run_runAt (l : List Mac) (k n : Nat) (hk : k ≤ l.length) (hn : n ≤ k) : (n : Int) ≤ runK l k ↔ runAt l (k - n) n := by
  rw [runK_iff l k n hk hn]
  unfold runAt
  rw [show k - n + n = k by omega]
  exact ⟨fun h => ⟨hk, h⟩, fun h => h.2⟩
theorem runK_le (l : List Mac) : ∀ k, runK l k ≤ k
  | 0 => by simp [runK, foldS]
  | k + 1 => by
    cases h : l[k]? with
    | none =>
      have e : l.take (k + 1) = l.take k := by rw [List.take_add_one, h]; simp
      have := runK_le l k
      unfold runK at *
      rw [e]; omega
    | some x =>
      have := runK_le l k
      have := runK_nonneg l k
      rw [runK_next l k x h]
      unfold nxR
      split <;> omega
set_option maxHeartbeats 8000000 in
theorem macMoves_fn (G : Gh) (A : Option Addr) (c : Nat) (l : List Mac) (hl : kMac.S G A c l) :
    Ct Try.prog 34 [.v (.slice A l.length c)] [] G fun sv H' G' => ∃ r : Int, sv = .v (.int .i64 r) ∧ Longest l r ∧ H' = [] ∧ G' = G := by
  refine fn_of follows [] Try.func34 rfl rfl fun E hE => ?_
  have hcap := hl.cap
  repeat' ((fail_if_success with_reducible refine Stop.mk ?_); (conv => whnf); with_reducible first | refine br_t ?_ | refine br_f ?_ | refine br_nn ?_ | refine br_ns ?_ | refine br_not ?_ | refine br_d (fun h => ?_) (fun h => ?_) | refine br_e (fun h => ?_) (fun h => ?_) | refine br_n (fun h => ?_) (fun h => ?_) | refine drw (by kernel_rfl) ?_ | refine chk (by kernel_rfl) ?_ | refine stop ?_)
  all_goals refine Stop.mk ?_
  refine loop_vars follows [] (α := Nat × Int) (fun x => [(3, .v (.int .i64 x.2)), (4, .v (.int .i64 (runK l x.1))), (9, .v (.int .i64 x.1))]) (fun x => []) (fun x => G)
    (fun x => x.1 ≤ l.length ∧ (∀ j, j ≤ x.1 → runK l j ≤ x.2) ∧ ∃ j, j ≤ x.1 ∧ x.2 = runK l j) (fun x => l.length - x.1) (0, 0)
    ⟨Nat.zero_le _, fun j hj => by have : j = 0 := by omega
                                   subst this; simp [runK, foldS], 0, Nat.le_refl _, by simp [runK, foldS]⟩ rfl rfl ?_ ?_
  ·
    refine ⟨?_⟩
    (conv => whnf)
    (repeat' (first | exact trivial | exact .inl rfl | exact .inr rfl | refine And.intro ?_ ?_))
  rintro ⟨k, most⟩ ⟨hk, hall, hsome⟩
  dsimp only at hk hall hsome ⊢
  have hrk := runK_le l k
  have hrn := runK_nonneg l k
  repeat' ((fail_if_success with_reducible refine Stop.mk ?_); (conv => whnf); with_reducible first | refine br_t ?_ | refine br_f ?_ | refine br_nn ?_ | refine br_ns ?_ | refine br_not ?_ | refine br_d (fun h => ?_) (fun h => ?_) | refine br_e (fun h => ?_) (fun h => ?_) | refine br_n (fun h => ?_) (fun h => ?_) | refine drw (by kernel_rfl) ?_ | refine chk (by kernel_rfl) ?_ | refine stop ?_)
  all_goals refine Stop.mk ?_
  ·
    obtain ⟨_, hs_, hat_⟩ := hl.at (sz := 7) rfl
    refine ⟨⟨by omega, by omega⟩, _, hs_, fun ad had => ?_⟩
    obtain ⟨i, cells, hi, hRi, hGi⟩ := hat_ k (by omega) ad (by first | exact had | (rw [Int.toNat_natCast] at had; exact had))
    clear had hat_ hs_
    obtain ⟨rfl, hiok⟩ := hRi
    have hw2 : IntKind.i64.wrap ((k : Int) + 1) = ((k + 1 : Nat) : Int) := by rw [i64_in (by omega) (by omega)]; simp
    have hw3 : IntKind.i64.wrap (runK l k + 1) = runK l k + 1 := i64_in (by omega) (by omega)
    have hnx := runK_next l k i hi
    unfold nxR at hnx
    have hall2 : ∀ b : Int, most ≤ b → runK l (k + 1) ≤ b → ∀ j, j ≤ k + 1 → runK l j ≤ b := by
      intro b h1 h2 j hj
      rcases Nat.lt_or_ge j (k + 1) with h3 | h3
      · have := hall j (by omega); omega
      · have : j = k + 1 := by omega
        subst this; exact h2
    have hfin : ∀ v : Int, runK l (k + 1) = v → k + 1 ≤ l.length ∧ (∀ j, j ≤ k + 1 → runK l j ≤ (if v > most then v else most)) ∧ ∃ j, j ≤ k + 1 ∧ (if v > most then v else most) = runK l j := by
      intro v hv
      refine ⟨by omega, hall2 _ (by split <;> omega) (by split <;> omega), ?_⟩
      split
      · exact ⟨k + 1, Nat.le_refl _, hv.symm⟩
      · obtain ⟨j, hj, hje⟩ := hsome
        exact ⟨j, by omega, hje⟩
    repeat' ((fail_if_success with_reducible refine Stop.mk ?_); (conv => whnf); with_reducible first | refine br_t ?_ | refine br_f ?_ | refine br_nn ?_ | refine br_ns ?_ | refine br_not ?_ | refine br_d (fun h => ?_) (fun h => ?_) | refine br_e (fun h => ?_) (fun h => ?_) | refine br_n (fun h => ?_) (fun h => ?_) | refine drw (by kernel_rfl) ?_ | refine chk (by kernel_rfl) ?_ | refine stop ?_)
    all_goals refine Stop.mk ?_
    refine ⟨_, rfl, hGi, ?_⟩
    repeat' ((fail_if_success with_reducible refine Stop.mk ?_); (conv => whnf); with_reducible first | refine br_t ?_ | refine br_f ?_ | refine br_nn ?_ | refine br_ns ?_ | refine br_not ?_ | refine br_d (fun h => ?_) (fun h => ?_) | refine br_e (fun h => ?_) (fun h => ?_) | refine br_n (fun h => ?_) (fun h => ?_) | refine drw (by kernel_rfl) ?_ | refine chk (by kernel_rfl) ?_ | refine stop ?_)
    all_goals refine Stop.mk ?_
    all_goals
      rw [hw2]
      try rw [hw3]
      refine tell_gc hE [] rfl rfl ?_
      (conv => whnf)
    all_goals
      first
        | (have h18 : i.op = 18 := by assumption
           rw [if_pos h18] at hnx
           refine tell_here ⟨(k + 1, if runK l k + 1 > most then runK l k + 1 else most), hfin _ hnx, by show l.length - (k + 1) < l.length - k; omega, rfl, rfl, ?_⟩)
        | (have h18 : i.op ≠ 18 := by assumption
           rw [if_neg h18] at hnx
           refine tell_here ⟨(k + 1, if (0 : Int) > most then 0 else most), hfin _ hnx, by show l.length - (k + 1) < l.length - k; omega, rfl, rfl, ?_⟩)
      dsimp only
      rw [hnx]
      refine ⟨?_⟩
      (conv => whnf)
      (repeat' (first | exact trivial | exact .inl rfl | exact .inr rfl | refine And.intro ?_ ?_))
  · have hkl : k = l.length := by omega
    subst hkl
    refine fin_id hE 0 rfl rfl rfl rfl ⟨most, rfl, ⟨?_, fun n => ?_⟩, rfl, rfl⟩
    · have := hall 0 (Nat.zero_le _)
      simpa [runK, foldS] using this
    · constructor
      · intro h9
        obtain ⟨j, hj, rfl⟩ := hsome
        have hle := runK_le l j
        exact ⟨j - n, (run_runAt l j n hj (by omega)).1 h9⟩
      · rintro ⟨i, hi⟩
        have h1 := hi.1
        have h2 := (run_runAt l (i + n) n h1 (by omega)).2 (by rw [show i + n - n = i by omega]; exact hi)
        have h3 := hall (i + n) h1
        omega
end Go.Proofs.Ytihnbkoeaaepiaa.Cu
