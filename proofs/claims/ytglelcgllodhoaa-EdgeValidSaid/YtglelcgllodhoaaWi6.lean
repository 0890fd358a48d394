/- Invariants: the reference's checks. -/
import Derived.Test.YtglelcgllodhoaaWi4
import Derived.Test.YtglelcgllodhoaaSXg
namespace Go.Proofs.Ytglelcgllodhoaa.Cu
open Go Go.SX Go.Proofs.Ytglelcgllodhoaa.VT
set_option maxRecDepth 100000
set_option linter.unusedVariables false
set_option linter.unusedSimpArgs false

def ltP (a b : Pr) : Prop := a.v < b.v ∨ (a.v = b.v ∧ a.l < b.l)
instance (a b : Pr) : Decidable (ltP a b) := inferInstanceAs (Decidable (_ ∨ _))
def tot : List (List Pr) → Nat
  | [] => 0
  | x :: xs => x.length + tot xs
theorem tot_take : ∀ (l : List (List Pr)) (k : Nat) (x : List Pr), l[k]? = some x → tot (l.take (k + 1)) = tot (l.take k) + x.length
  | [], k, x, h => by simp at h
  | y :: l, 0, x, h => by simp at h; subst h; simp [tot]
  | y :: l, k + 1, x, h => by
    have := tot_take l k x (by simpa using h)
    simp only [List.take_succ_cons, tot, this]; omega
theorem tot_le : ∀ (l : List (List Pr)) (k : Nat), tot (l.take k) ≤ tot l
  | [], k => by simp
  | y :: l, 0 => by simp [tot]
  | y :: l, k + 1 => by have := tot_le l k; simp only [List.take_succ_cons, tot]; omega
theorem okInv_iff (vregs regs slots : Int) : ∀ (l : List (List Pr)) (t : Int), 0 ≤ t → (okL (okBlk vregs regs slots) nxT t l ↔ ((l = [] ∨ t + tot l ≤ 1048576) ∧ ∀ x ∈ l, okPrs vregs regs slots x))
  | [], t, _ => by simp [okL]
  | x :: l, t, ht => by
    have h := okInv_iff vregs regs slots l (nxT t x) (by unfold nxT; omega)
    simp only [okL, tot]
    rw [h]
    unfold okBlk nxT
    constructor
    · rintro ⟨⟨h1, h2⟩, h3, h4⟩
      refine ⟨.inr ?_, ?_⟩
      · rcases h3 with rfl | h3
        · simp [tot]; omega
        · push_cast; omega
      · intro y hy
        rcases List.mem_cons.1 hy with rfl | hy
        · exact h2
        · exact h4 y hy
    · rintro ⟨h1, h2⟩
      have h1' : t + ((x.length + tot l : Nat) : Int) ≤ 1048576 := by
        rcases h1 with h1 | h1
        · simp at h1
        · exact h1
      exact ⟨⟨by omega, h2 x (by simp)⟩, .inr (by omega), fun y hy => h2 y (by simp [hy])⟩
theorem okInv_tot (vregs regs slots : Int) (l : List (List Pr)) : okInv vregs regs slots l ↔ (tot l ≤ 1048576 ∧ ∀ x ∈ l, okPrs vregs regs slots x) := by
  unfold okInv
  rw [okInv_iff vregs regs slots l 0 (Int.le_refl _)]
  constructor
  · rintro ⟨h1, h2⟩
    refine ⟨?_, h2⟩
    rcases h1 with rfl | h1
    · simp [tot]
    · omega
  · rintro ⟨h1, h2⟩
    exact ⟨.inr (by omega), h2⟩
/-- What is checked of the pair at j. -/
def chkP (vregs regs slots : Int) (ps : List Pr) (j : Nat) (x : Pr) : Prop := (0 ≤ x.v ∧ x.v < vregs) ∧ inRange x.l regs slots ∧ (0 < j → ltP (ps.getD (j - 1) pr0) x)
theorem okL_ix {vregs regs slots : Int} : ∀ (ps : List Pr) (s : PS), okL (okPr vregs regs slots) nxP s ps ↔ ∀ j x, ps[j]? = some x → okPr vregs regs slots (if j = 0 then s else (false, ps.getD (j - 1) pr0)) x
  | [], s => by simp [okL]
  | p :: ps, s => by
    simp only [okL]
    rw [okL_ix ps (nxP s p)]
    constructor
    · rintro ⟨h1, h2⟩ j x hx
      cases j with
      | zero => simp at hx; subst hx; simpa using h1
      | succ j =>
        have := h2 j x (by simpa using hx)
        rw [if_neg (by omega)]
        cases j with
        | zero => simpa [nxP] using this
        | succ j => simpa using this
    · intro h
      refine ⟨by simpa using h 0 p (by simp), fun j x hx => ?_⟩
      have := h (j + 1) x (by simpa using hx)
      rw [if_neg (by omega)] at this
      cases j with
      | zero => simpa [nxP] using this
      | succ j => simpa using this
theorem okPrs_ix (vregs regs slots : Int) (ps : List Pr) : okPrs vregs regs slots ps ↔ ∀ j x, ps[j]? = some x → chkP vregs regs slots ps j x := by
  unfold okPrs
  rw [okL_ix]
  constructor
  · intro h
    have hv : ∀ (j : Nat) (x : Pr), ps[j]? = some x → 0 ≤ x.v := by
      intro j
      induction j with
      | zero =>
        intro x hx
        exact (h 0 x hx).1
      | succ j ih =>
        intro x hx
        have h1 := (h (j + 1) x hx).1
        rw [if_neg (by omega)] at h1
        have hj : j < ps.length := by have := (List.getElem?_eq_some_iff.1 hx).1; omega
        have h2 := ih ps[j] (List.getElem?_eq_getElem hj)
        have h3 : ps.getD (j + 1 - 1) pr0 = ps[j] := by rw [Nat.add_sub_cancel, List.getD_eq_getElem?_getD, List.getElem?_eq_getElem hj]; rfl
        rw [h3] at h1
        dsimp only at h1
        omega
    intro j x hx
    obtain ⟨h1, h2, h3, h4⟩ := h j x hx
    refine ⟨⟨hv j x hx, h2⟩, h3, fun hj => ?_⟩
    rw [if_neg (by omega)] at h1 h4
    dsimp only at h1 h4
    have h5 := h4 rfl
    unfold ltP
    rcases Int.lt_or_eq_of_le h1 with h6 | h6
    · exact .inl h6
    · exact .inr ⟨h6, h5 h6.symm⟩
  · intro h j x hx
    obtain ⟨⟨h1, h2⟩, h3, h4⟩ := h j x hx
    by_cases hj : j = 0
    · rw [if_pos hj]
      exact ⟨h1, h2, h3, fun h9 => absurd h9 (by decide)⟩
    · rw [if_neg hj]
      have h5 := h4 (by omega)
      unfold ltP at h5
      refine ⟨?_, h2, h3, fun _ h9 => ?_⟩ <;> dsimp only at * <;> omega
theorem rless_fn (G : Gh) (a b : Pr) : Ct Try.prog 10 [a.sv, b.sv] [] G fun sv H' G' => sv = .v (.bool (decide (ltP a b))) ∧ H' = [] ∧ G' = G := by
  refine fn_of follows [] Try.func10 rfl rfl fun E hE => ?_
  repeat' ((fail_if_success with_reducible refine Stop.mk ?_); (conv => whnf); with_reducible first | refine br_t ?_ | refine br_f ?_ | refine br_nn ?_ | refine br_ns ?_ | refine br_not ?_ | refine br_d (fun h => ?_) (fun h => ?_) | refine br_e (fun h => ?_) (fun h => ?_) | refine br_n (fun h => ?_) (fun h => ?_) | refine drw (by kernel_rfl) ?_ | refine chk (by kernel_rfl) ?_ | refine stop ?_)
  all_goals refine Stop.mk ?_
  all_goals
    refine fin_id hE 0 rfl rfl rfl rfl ⟨congrArg (fun b => SV.v (.bool b)) ?_, rfl, rfl⟩
    refine bdec ?_
    simp only [decide_eq_true_iff, ltP]
    omega
theorem rfew15_fn (G : Gh) (A : Option Addr) (c : Nat) (l : List (List Pr)) (hl : kPrs.S G A c l) :
    Ct Try.prog 8 [.v (.slice A l.length c)] [] G fun sv H' G' => (∃ r, sv = .v (.bool r) ∧ (r = true → l.length ≤ 40 ∧ ∀ x ∈ l, x.length ≤ 400)) ∧ H' = [] ∧ G' = G := by
  refine fn_of follows [] Try.func8 rfl rfl fun E hE => ?_
  have hcap := hl.cap
  repeat' ((fail_if_success with_reducible refine Stop.mk ?_); (conv => whnf); with_reducible first | refine br_t ?_ | refine br_f ?_ | refine br_nn ?_ | refine br_ns ?_ | refine br_not ?_ | refine br_d (fun h => ?_) (fun h => ?_) | refine br_e (fun h => ?_) (fun h => ?_) | refine br_n (fun h => ?_) (fun h => ?_) | refine drw (by kernel_rfl) ?_ | refine chk (by kernel_rfl) ?_ | refine stop ?_)
  all_goals refine Stop.mk ?_
  refine loop_vars follows [] (α := Nat) (fun k => [(3, .v (.int .i64 k))]) (fun x => []) (fun x => G) (fun k => k ≤ l.length ∧ k ≤ 41 ∧ ∀ x ∈ l.take k, x.length ≤ 400) (fun k => l.length - k) 0
    ⟨Nat.zero_le _, Nat.zero_le _, by simp⟩ rfl rfl ?_ ?_
  ·
    refine ⟨?_⟩
    (conv => whnf)
    (repeat' (first | exact trivial | exact .inl rfl | exact .inr rfl | refine And.intro ?_ ?_))
  intro k hI
  obtain ⟨hk, hk2, hall⟩ := hI
  have hw2 : IntKind.i64.wrap ((k : Int) + 1) = ((k + 1 : Nat) : Int) := by rw [i64_in (by omega) (by omega)]; simp
  repeat' ((fail_if_success with_reducible refine Stop.mk ?_); (conv => whnf); with_reducible first | refine br_t ?_ | refine br_f ?_ | refine br_nn ?_ | refine br_ns ?_ | refine br_not ?_ | refine br_d (fun h => ?_) (fun h => ?_) | refine br_e (fun h => ?_) (fun h => ?_) | refine br_n (fun h => ?_) (fun h => ?_) | refine drw (by kernel_rfl) ?_ | refine chk (by kernel_rfl) ?_ | refine stop ?_)
  all_goals refine Stop.mk ?_
  all_goals try
    obtain ⟨_, hs_, hat_⟩ := hl.at (sz := 1) rfl
    refine ⟨⟨by omega, by omega⟩, _, hs_, fun ad had hadr => ?_⟩
    obtain ⟨ps, cells, hps, hRps, hGps⟩ := hat_ k (by omega) ad (by first | exact had | (rw [Int.toNat_natCast] at had; exact had))
    clear had hat_ hs_
    obtain ⟨A', c', rfl, hS⟩ := kPrs_R hRps
    repeat' ((fail_if_success with_reducible refine Stop.mk ?_); (conv => whnf); with_reducible first | refine br_t ?_ | refine br_f ?_ | refine br_nn ?_ | refine br_ns ?_ | refine br_not ?_ | refine br_d (fun h => ?_) (fun h => ?_) | refine br_e (fun h => ?_) (fun h => ?_) | refine br_n (fun h => ?_) (fun h => ?_) | refine drw (by kernel_rfl) ?_ | refine chk (by kernel_rfl) ?_ | refine stop ?_)
    all_goals refine Stop.mk ?_
    refine ⟨_, ld1 hGps, ?_⟩
    repeat' ((fail_if_success with_reducible refine Stop.mk ?_); (conv => whnf); with_reducible first | refine br_t ?_ | refine br_f ?_ | refine br_nn ?_ | refine br_ns ?_ | refine br_not ?_ | refine br_d (fun h => ?_) (fun h => ?_) | refine br_e (fun h => ?_) (fun h => ?_) | refine br_n (fun h => ?_) (fun h => ?_) | refine drw (by kernel_rfl) ?_ | refine chk (by kernel_rfl) ?_ | refine stop ?_)
    all_goals refine Stop.mk ?_
  all_goals try
    refine fin_all ⟨⟨_, rfl, fun h => ?_⟩, rfl, rfl⟩
    first
      | exact absurd h (by decide)
      | (have h40 := of_decide_eq_true h
         obtain rfl : k = l.length := by omega
         rw [List.take_length] at hall
         exact ⟨by omega, hall⟩)
  all_goals
    rw [hw2]
    refine tell_here ⟨k + 1, ⟨by omega, by omega, ?_⟩, by show l.length - (k + 1) < l.length - k; omega, rfl, rfl, ?_⟩
    · intro x hx
      rw [List.take_add_one, hps] at hx
      rcases List.mem_append.1 hx with hx | hx
      · exact hall x hx
      · simp at hx; subst hx; omega
    ·
      refine ⟨?_⟩
      (conv => whnf)
      (repeat' (first | exact trivial | exact .inl rfl | exact .inr rfl | refine And.intro ?_ ?_))
theorem same11_fn (G : Gh) (A B : Option Addr) (c d : Nat) (ls ms : List Pr) (hl : kPr.S G A c ls) (hm : kPr.S G B d ms) :
    Ct Try.prog 14 [.v (.slice A ls.length c), .v (.slice B ms.length d)] [] G fun sv H' G' => sv = .v (.bool (decide (ls = ms))) ∧ H' = [] ∧ G' = G := by
  refine fn_of follows [(6, (.cons 0 [] (.cons 1 [] (.cons 2 [] (.cons 3 [] (.cons 4 [] (.cons 5 [] (.cons 6 [] (.cons 7 [] (.cons 8 [] .nil))))))))))] Try.func14 rfl rfl fun E hE => ?_
  have hcap := hl.cap
  have hcap2 := hm.cap
  repeat' ((fail_if_success with_reducible refine Stop.mk ?_); (conv => whnf); with_reducible first | refine br_t ?_ | refine br_f ?_ | refine br_nn ?_ | refine br_ns ?_ | refine br_not ?_ | refine br_d (fun h => ?_) (fun h => ?_) | refine br_e (fun h => ?_) (fun h => ?_) | refine br_n (fun h => ?_) (fun h => ?_) | refine drw (by kernel_rfl) ?_ | refine chk (by kernel_rfl) ?_ | refine stop ?_)
  all_goals refine Stop.mk ?_
  · refine loop_vars follows [(6, (.cons 0 [] (.cons 1 [] (.cons 2 [] (.cons 3 [] (.cons 4 [] (.cons 5 [] (.cons 6 [] (.cons 7 [] (.cons 8 [] .nil))))))))))] (α := Nat) (fun x => [(5, .v (.int .i64 x))]) (fun x => []) (fun x => G) (fun k => k ≤ ls.length ∧ ls.take k = ms.take k) (fun x => ls.length - x) 0
      ⟨Nat.zero_le _, rfl⟩ rfl rfl ?_ ?_
    ·
      refine ⟨?_⟩
      (conv => whnf)
      (repeat' (first | exact trivial | exact .inl rfl | exact .inr rfl | refine And.intro ?_ ?_))
    intro k hI
    obtain ⟨hk, heq⟩ := hI
    have hw2 : k < ls.length → IntKind.i64.wrap ((k : Int) + 1) = ((k + 1 : Nat) : Int) := fun h => by rw [i64_in (by omega) (by omega)]; simp
    repeat' ((fail_if_success with_reducible refine Stop.mk ?_); (conv => whnf); with_reducible first | refine br_t ?_ | refine br_f ?_ | refine br_nn ?_ | refine br_ns ?_ | refine br_not ?_ | refine br_d (fun h => ?_) (fun h => ?_) | refine br_e (fun h => ?_) (fun h => ?_) | refine br_n (fun h => ?_) (fun h => ?_) | refine drw (by kernel_rfl) ?_ | refine chk (by kernel_rfl) ?_ | refine stop ?_)
    all_goals refine Stop.mk ?_
    ·
      obtain ⟨_, hs_, hat_⟩ := hl.at (sz := 2) rfl
      refine ⟨⟨by omega, by omega⟩, _, hs_, fun ad had hadr => ?_⟩
      obtain ⟨x, cells, hx, hRx, hGx⟩ := hat_ k (by omega) ad (by first | exact had | (rw [Int.toNat_natCast] at had; exact had))
      clear had hat_ hs_
      obtain ⟨rfl, hx1, hx2⟩ := hRx
      repeat' ((fail_if_success with_reducible refine Stop.mk ?_); (conv => whnf); with_reducible first | refine br_t ?_ | refine br_f ?_ | refine br_nn ?_ | refine br_ns ?_ | refine br_not ?_ | refine br_d (fun h => ?_) (fun h => ?_) | refine br_e (fun h => ?_) (fun h => ?_) | refine br_n (fun h => ?_) (fun h => ?_) | refine drw (by kernel_rfl) ?_ | refine chk (by kernel_rfl) ?_ | refine stop ?_)
      all_goals refine Stop.mk ?_
      refine ⟨_, rfl, hGx, ?_⟩
      repeat' ((fail_if_success with_reducible refine Stop.mk ?_); (conv => whnf); with_reducible first | refine br_t ?_ | refine br_f ?_ | refine br_nn ?_ | refine br_ns ?_ | refine br_not ?_ | refine br_d (fun h => ?_) (fun h => ?_) | refine br_e (fun h => ?_) (fun h => ?_) | refine br_n (fun h => ?_) (fun h => ?_) | refine drw (by kernel_rfl) ?_ | refine chk (by kernel_rfl) ?_ | refine stop ?_)
      all_goals refine Stop.mk ?_
      obtain ⟨_, hs_, hat_⟩ := hm.at (sz := 2) rfl
      refine ⟨⟨by omega, by omega⟩, _, hs_, fun ad had hadr => ?_⟩
      obtain ⟨y, cells, hy, hRy, hGy⟩ := hat_ k (by omega) ad (by first | exact had | (rw [Int.toNat_natCast] at had; exact had))
      clear had hat_ hs_
      obtain ⟨rfl, hy1, hy2⟩ := hRy
      repeat' ((fail_if_success with_reducible refine Stop.mk ?_); (conv => whnf); with_reducible first | refine br_t ?_ | refine br_f ?_ | refine br_nn ?_ | refine br_ns ?_ | refine br_not ?_ | refine br_d (fun h => ?_) (fun h => ?_) | refine br_e (fun h => ?_) (fun h => ?_) | refine br_n (fun h => ?_) (fun h => ?_) | refine drw (by kernel_rfl) ?_ | refine chk (by kernel_rfl) ?_ | refine stop ?_)
      all_goals refine Stop.mk ?_
      refine ⟨_, rfl, hGy, ?_⟩
      repeat' ((fail_if_success with_reducible refine Stop.mk ?_); (conv => whnf); with_reducible first | refine br_t ?_ | refine br_f ?_ | refine br_nn ?_ | refine br_ns ?_ | refine br_not ?_ | refine br_d (fun h => ?_) (fun h => ?_) | refine br_e (fun h => ?_) (fun h => ?_) | refine br_n (fun h => ?_) (fun h => ?_) | refine drw (by kernel_rfl) ?_ | refine chk (by kernel_rfl) ?_ | refine stop ?_)
      all_goals refine Stop.mk ?_
      · have hxy : x = y := by
          obtain ⟨xv, xl⟩ := x
          obtain ⟨yv, yl⟩ := y
          simp only [List.cons.injEq] at h
          rw [h.1, h.2.1]
        subst hxy
        rw [hw2 (by omega)]
        refine tell_here ⟨k + 1, ⟨by omega, ?_⟩, by show ls.length - (k + 1) < ls.length - k; omega, rfl, rfl, ?_⟩
        · rw [List.take_add_one, List.take_add_one, heq, hx, hy]
        ·
          refine ⟨?_⟩
          (conv => whnf)
          (repeat' (first | exact trivial | exact .inl rfl | exact .inr rfl | refine And.intro ?_ ?_))
      · refine fin_all ⟨?_, rfl, rfl⟩
        rw [decide_eq_false]
        intro he
        subst he
        rw [hx] at hy
        simp at hy
        subst hy
        exact h rfl
    · refine fin_all ⟨?_, rfl, rfl⟩
      rw [decide_eq_true]
      rw [List.take_of_length_le (by omega), List.take_of_length_le (by omega)] at heq
      exact heq
  · refine fin_all ⟨?_, rfl, rfl⟩
    rw [decide_eq_false]
    intro he
    subst he
    exact absurd rfl (by assumption)
/-- What Valid accepts. -/
def validI (blocks vregs regs slots : Int) (l : List (List Pr)) : Prop := (l.length : Int) = blocks ∧ okInv vregs regs slots l
set_option maxHeartbeats 8000000 in
theorem valid15_fn (G : Gh) (A : Option Addr) (c : Nat) (l : List (List Pr)) (blocks vregs regs slots : Int) (hl : kPrs.S G A c l) (hbig : l.length ≤ 1000000 ∧ ∀ x ∈ l, x.length ≤ 1000000000) :
    Ct Try.prog 11 [.v (.slice A l.length c), .v (.int .i64 blocks), .v (.int .i64 vregs), .v (.int .i64 regs), .v (.int .i64 slots)] [] G fun sv H' G' => ∃ e : Int, sv = .v (.int .i64 e) ∧ (e = 0 ↔ validI blocks vregs regs slots l) ∧ H' = [] ∧ G' = G := by
  refine fn_of follows [(21, (.cons 0 [] (.cons 1 [] (.cons 2 [] (.cons 3 [] (.cons 4 [] (.cons 5 [] (.cons 6 [] (.cons 7 [] (.cons 8 [] (.cons 9 [] (.cons 10 [] (.cons 11 [] (.cons 12 [6, 10, 11] (.cons 13 [] (.cons 14 [] .nil))))))))))))))))] Try.func11 rfl rfl fun E hE => ?_
  have hcap := hl.cap
  have hiff := okInv_tot vregs regs slots l
  have hix := okPrs_ix vregs regs slots
  repeat' ((fail_if_success with_reducible refine Stop.mk ?_); (conv => whnf); with_reducible first | refine br_t ?_ | refine br_f ?_ | refine br_nn ?_ | refine br_ns ?_ | refine br_not ?_ | refine br_d (fun h => ?_) (fun h => ?_) | refine br_e (fun h => ?_) (fun h => ?_) | refine br_n (fun h => ?_) (fun h => ?_) | refine drw (by kernel_rfl) ?_ | refine chk (by kernel_rfl) ?_ | refine stop ?_)
  all_goals refine Stop.mk ?_
  rotate_left
  · refine fin_all ⟨_, rfl, ⟨fun h9 => absurd h9 (by decide), fun h9 => ?_⟩, rfl, rfl⟩
    exact absurd h9.1 (by assumption)
  refine loop_vars follows [(21, (.cons 0 [] (.cons 1 [] (.cons 2 [] (.cons 3 [] (.cons 4 [] (.cons 5 [] (.cons 6 [] (.cons 7 [] (.cons 8 [] (.cons 9 [] (.cons 10 [] (.cons 11 [] (.cons 12 [6, 10, 11] (.cons 13 [] (.cons 14 [] .nil))))))))))))))))] (α := Nat) (fun k => [(11, .v (.int .i64 (tot (l.take k)))), (12, .v (.int .i64 k))]) (fun x => []) (fun x => G) (fun k => k ≤ l.length ∧ tot (l.take k) ≤ 1048576) (fun k => l.length - k) 0
    ⟨Nat.zero_le _, by simp [tot]⟩ rfl rfl ?_ ?_
  ·
    refine ⟨?_⟩
    (conv => whnf)
    (repeat' (first | exact trivial | exact .inl rfl | exact .inr rfl | refine And.intro ?_ ?_))
  intro k hI
  obtain ⟨hk, htk⟩ := hI
  have hw2 : IntKind.i64.wrap ((k : Int) + 1) = ((k + 1 : Nat) : Int) := by rw [i64_in (by omega) (by omega)]; simp
  have htt := tot_take l k
  have htl := tot_le l (k + 1)
  repeat' ((fail_if_success with_reducible refine Stop.mk ?_); (conv => whnf); with_reducible first | refine br_t ?_ | refine br_f ?_ | refine br_nn ?_ | refine br_ns ?_ | refine br_not ?_ | refine br_d (fun h => ?_) (fun h => ?_) | refine br_e (fun h => ?_) (fun h => ?_) | refine br_n (fun h => ?_) (fun h => ?_) | refine drw (by kernel_rfl) ?_ | refine chk (by kernel_rfl) ?_ | refine stop ?_)
  all_goals refine Stop.mk ?_
  ·
    obtain ⟨_, hs_, hat_⟩ := hl.at (sz := 1) rfl
    refine ⟨⟨by omega, by omega⟩, _, hs_, fun ad had hadr => ?_⟩
    obtain ⟨ps, cells, hps, hRps, hGps⟩ := hat_ k (by omega) ad (by first | exact had | (rw [Int.toNat_natCast] at had; exact had))
    clear had hat_ hs_
    obtain ⟨A', c', rfl, hS⟩ := kPrs_R hRps
    have hpl := hbig.2 ps (List.mem_of_getElem? hps)
    replace htt := htt ps hps
    have hw3 : IntKind.i64.wrap ((tot (l.take k) : Int) + (ps.length : Int)) = ((tot (l.take (k + 1)) : Nat) : Int) := by rw [i64_in (by omega) (by omega), htt]; simp
    repeat' ((fail_if_success with_reducible refine Stop.mk ?_); (conv => whnf); with_reducible first | refine br_t ?_ | refine br_f ?_ | refine br_nn ?_ | refine br_ns ?_ | refine br_not ?_ | refine br_d (fun h => ?_) (fun h => ?_) | refine br_e (fun h => ?_) (fun h => ?_) | refine br_n (fun h => ?_) (fun h => ?_) | refine drw (by kernel_rfl) ?_ | refine chk (by kernel_rfl) ?_ | refine stop ?_)
    all_goals refine Stop.mk ?_
    refine ⟨_, ld1 hGps, ?_⟩
    repeat' ((fail_if_success with_reducible refine Stop.mk ?_); (conv => whnf); with_reducible first | refine br_t ?_ | refine br_f ?_ | refine br_nn ?_ | refine br_ns ?_ | refine br_not ?_ | refine br_d (fun h => ?_) (fun h => ?_) | refine br_e (fun h => ?_) (fun h => ?_) | refine br_n (fun h => ?_) (fun h => ?_) | refine drw (by kernel_rfl) ?_ | refine chk (by kernel_rfl) ?_ | refine stop ?_)
    all_goals refine Stop.mk ?_
    all_goals rw [hw3] at h
    · refine fin_all ⟨_, rfl, ⟨fun h9 => absurd h9 (by decide), fun h9 => ?_⟩, rfl, rfl⟩
      have := (hiff.1 h9.2).1
      omega
    · rw [hw2, hw3]
      refine tell_here ⟨k + 1, ⟨by omega, by omega⟩, by show l.length - (k + 1) < l.length - k; omega, rfl, rfl, ?_⟩
      refine ⟨?_⟩
      (conv => whnf)
      (repeat' (first | exact trivial | exact .inl rfl | exact .inr rfl | refine And.intro ?_ ?_))
  · obtain rfl : k = l.length := by omega
    rw [List.take_length] at htk
    clear hw2 htt htl
    refine loop_opq fun K0 hK0 => ?_
    refine loop_vars follows [(21, (.cons 0 [] (.cons 1 [] (.cons 2 [] (.cons 3 [] (.cons 4 [] (.cons 5 [] (.cons 6 [] (.cons 7 [] (.cons 8 [] (.cons 9 [] (.cons 10 [] (.cons 11 [] (.cons 12 [6, 10, 11] (.cons 13 [] (.cons 14 [] .nil))))))))))))))))] (α := Nat) (fun k => [(13, .v (.int .i64 k))]) (fun x => []) (fun x => G) (fun k => k ≤ l.length ∧ ∀ x ∈ l.take k, okPrs vregs regs slots x) (fun k => l.length - k) 0
      ⟨Nat.zero_le _, by simp⟩ rfl rfl ?_ ?_
    ·
      refine ⟨?_⟩
      (conv => whnf)
      (repeat' (first | exact trivial | exact .inl rfl | exact .inr rfl | refine And.intro ?_ ?_))
    intro k hI
    obtain ⟨hk2, hall⟩ := hI
    have hw2 : IntKind.i64.wrap ((k : Int) + 1) = ((k + 1 : Nat) : Int) := by rw [i64_in (by omega) (by omega)]; simp
    repeat' ((fail_if_success with_reducible refine Stop.mk ?_); (conv => whnf); with_reducible first | refine br_t ?_ | refine br_f ?_ | refine br_nn ?_ | refine br_ns ?_ | refine br_not ?_ | refine br_d (fun h => ?_) (fun h => ?_) | refine br_e (fun h => ?_) (fun h => ?_) | refine br_n (fun h => ?_) (fun h => ?_) | refine drw (by kernel_rfl) ?_ | refine chk (by kernel_rfl) ?_ | refine stop ?_)
    all_goals refine Stop.mk ?_
    · have hkl : k < l.length := by omega
      obtain ⟨ps, hps⟩ : ∃ ps, l[k]? = some ps := ⟨_, List.getElem?_eq_getElem hkl⟩
      have hpl := hbig.2 ps (List.mem_of_getElem? hps)
      replace hix := hix ps
      refine loop_opq fun K1 hK1 => ?_
      refine loop_vars follows [(21, (.cons 0 [] (.cons 1 [] (.cons 2 [] (.cons 3 [] (.cons 4 [] (.cons 5 [] (.cons 6 [] (.cons 7 [] (.cons 8 [] (.cons 9 [] (.cons 10 [] (.cons 11 [] (.cons 12 [6, 10, 11] (.cons 13 [] (.cons 14 [] .nil))))))))))))))))] (α := Nat) (fun k => [(14, .v (.int .i64 k))]) (fun x => []) (fun x => G) (fun j => j ≤ ps.length ∧ ∀ i x, i < j → ps[i]? = some x → chkP vregs regs slots ps i x) (fun j => ps.length - j) 0
        ⟨Nat.zero_le _, fun i x h => absurd h (Nat.not_lt_zero _)⟩ rfl rfl ?_ ?_
      ·
        refine ⟨?_⟩
        (conv => whnf)
        (repeat' (first | exact trivial | exact .inl rfl | exact .inr rfl | refine And.intro ?_ ?_))
      intro j hJ
      obtain ⟨hj, hchk⟩ := hJ
      have hw3 : IntKind.i64.wrap ((j : Int) + 1) = ((j + 1 : Nat) : Int) := by rw [i64_in (by omega) (by omega)]; simp
      repeat' ((fail_if_success with_reducible refine Stop.mk ?_); (conv => whnf); with_reducible first | refine br_t ?_ | refine br_f ?_ | refine br_nn ?_ | refine br_ns ?_ | refine br_not ?_ | refine br_d (fun h => ?_) (fun h => ?_) | refine br_e (fun h => ?_) (fun h => ?_) | refine br_n (fun h => ?_) (fun h => ?_) | refine drw (by kernel_rfl) ?_ | refine chk (by kernel_rfl) ?_ | refine stop ?_)
      all_goals refine Stop.mk ?_
      obtain ⟨_, hs_, hat_⟩ := hl.at (sz := 1) rfl
      refine ⟨⟨by omega, by omega⟩, _, hs_, fun ad had hadr => ?_⟩
      obtain ⟨u, cells, hu, hRu, hGu⟩ := hat_ k (by omega) ad (by first | exact had | (rw [Int.toNat_natCast] at had; exact had))
      clear had hat_ hs_
      obtain ⟨Au, cu, rfl, Su⟩ := kPrs_R hRu
      obtain rfl := Option.some.inj (hps.symm.trans hu)
      repeat' ((fail_if_success with_reducible refine Stop.mk ?_); (conv => whnf); with_reducible first | refine br_t ?_ | refine br_f ?_ | refine br_nn ?_ | refine br_ns ?_ | refine br_not ?_ | refine br_d (fun h => ?_) (fun h => ?_) | refine br_e (fun h => ?_) (fun h => ?_) | refine br_n (fun h => ?_) (fun h => ?_) | refine drw (by kernel_rfl) ?_ | refine chk (by kernel_rfl) ?_ | refine stop ?_)
      all_goals refine Stop.mk ?_
      refine ⟨_, ld1 hGu, ?_⟩
      repeat' ((fail_if_success with_reducible refine Stop.mk ?_); (conv => whnf); with_reducible first | refine br_t ?_ | refine br_f ?_ | refine br_nn ?_ | refine br_ns ?_ | refine br_not ?_ | refine br_d (fun h => ?_) (fun h => ?_) | refine br_e (fun h => ?_) (fun h => ?_) | refine br_n (fun h => ?_) (fun h => ?_) | refine drw (by kernel_rfl) ?_ | refine chk (by kernel_rfl) ?_ | refine stop ?_)
      all_goals refine Stop.mk ?_
      ·
        obtain ⟨_, hs_, hat_⟩ := hl.at (sz := 1) rfl
        refine ⟨⟨by omega, by omega⟩, _, hs_, fun ad had hadr => ?_⟩
        obtain ⟨w, cells, hw, hRw, hGw⟩ := hat_ k (by omega) ad (by first | exact had | (rw [Int.toNat_natCast] at had; exact had))
        clear had hat_ hs_
        obtain ⟨Aw, cw, rfl, Sw⟩ := kPrs_R hRw
        obtain rfl := Option.some.inj (hps.symm.trans hw)
        repeat' ((fail_if_success with_reducible refine Stop.mk ?_); (conv => whnf); with_reducible first | refine br_t ?_ | refine br_f ?_ | refine br_nn ?_ | refine br_ns ?_ | refine br_not ?_ | refine br_d (fun h => ?_) (fun h => ?_) | refine br_e (fun h => ?_) (fun h => ?_) | refine br_n (fun h => ?_) (fun h => ?_) | refine drw (by kernel_rfl) ?_ | refine chk (by kernel_rfl) ?_ | refine stop ?_)
        all_goals refine Stop.mk ?_
        refine ⟨_, ld1 hGw, ?_⟩
        repeat' ((fail_if_success with_reducible refine Stop.mk ?_); (conv => whnf); with_reducible first | refine br_t ?_ | refine br_f ?_ | refine br_nn ?_ | refine br_ns ?_ | refine br_not ?_ | refine br_d (fun h => ?_) (fun h => ?_) | refine br_e (fun h => ?_) (fun h => ?_) | refine br_n (fun h => ?_) (fun h => ?_) | refine drw (by kernel_rfl) ?_ | refine chk (by kernel_rfl) ?_ | refine stop ?_)
        all_goals refine Stop.mk ?_
        obtain ⟨_, hs_, hat_⟩ := Sw.at (sz := 2) rfl
        refine ⟨⟨by omega, by omega⟩, _, hs_, fun ad had hadr => ?_⟩
        obtain ⟨p, cells, hp, hRp, hGp⟩ := hat_ j (by omega) ad (by first | exact had | (rw [Int.toNat_natCast] at had; exact had))
        clear had hat_ hs_
        obtain ⟨rfl, hp1, hp2⟩ := hRp
        have hbad : ¬ chkP vregs regs slots ps j p → ¬ validI blocks vregs regs slots l := fun h9 h8 => h9 ((hix.1 ((hiff.1 h8.2).2 ps (List.mem_of_getElem? hps))) j p hp)
        repeat' ((fail_if_success with_reducible refine Stop.mk ?_); (conv => whnf); with_reducible first | refine br_t ?_ | refine br_f ?_ | refine br_nn ?_ | refine br_ns ?_ | refine br_not ?_ | refine br_d (fun h => ?_) (fun h => ?_) | refine br_e (fun h => ?_) (fun h => ?_) | refine br_n (fun h => ?_) (fun h => ?_) | refine drw (by kernel_rfl) ?_ | refine chk (by kernel_rfl) ?_ | refine stop ?_)
        all_goals refine Stop.mk ?_
        refine ⟨_, rfl, hGp, ?_⟩
        repeat' ((fail_if_success with_reducible refine Stop.mk ?_); (conv => whnf); with_reducible first | refine br_t ?_ | refine br_f ?_ | refine br_nn ?_ | refine br_ns ?_ | refine br_not ?_ | refine br_d (fun h => ?_) (fun h => ?_) | refine br_e (fun h => ?_) (fun h => ?_) | refine br_n (fun h => ?_) (fun h => ?_) | refine drw (by kernel_rfl) ?_ | refine chk (by kernel_rfl) ?_ | refine stop ?_)
        all_goals refine Stop.mk ?_
        · refine Stop.mk (hK1 _ _ ?_)
          clear hK1
          repeat' ((fail_if_success with_reducible refine Stop.mk ?_); (conv => whnf); with_reducible first | refine br_t ?_ | refine br_f ?_ | refine br_nn ?_ | refine br_ns ?_ | refine br_not ?_ | refine br_d (fun h => ?_) (fun h => ?_) | refine br_e (fun h => ?_) (fun h => ?_) | refine br_n (fun h => ?_) (fun h => ?_) | refine drw (by kernel_rfl) ?_ | refine chk (by kernel_rfl) ?_ | refine stop ?_)
          all_goals refine Stop.mk ?_
          first
            | refine Stop.mk (hK0 _ _ ?_)
            | refine hK0 _ _ ?_
          clear hK0
          repeat' ((fail_if_success with_reducible refine Stop.mk ?_); (conv => whnf); with_reducible first | refine br_t ?_ | refine br_f ?_ | refine br_nn ?_ | refine br_ns ?_ | refine br_not ?_ | refine br_d (fun h => ?_) (fun h => ?_) | refine br_e (fun h => ?_) (fun h => ?_) | refine br_n (fun h => ?_) (fun h => ?_) | refine drw (by kernel_rfl) ?_ | refine chk (by kernel_rfl) ?_ | refine stop ?_)
          all_goals refine Stop.mk ?_
          refine fin_id hE 0 rfl rfl rfl rfl ⟨_, rfl, ⟨fun h9 => absurd h9 (by decide), fun h9 => absurd h9 (hbad ?_)⟩, rfl, rfl⟩
          rintro ⟨⟨h7, h8⟩, _⟩; omega
        · refine Stop.mk (hK1 _ _ ?_)
          clear hK1
          repeat' ((fail_if_success with_reducible refine Stop.mk ?_); (conv => whnf); with_reducible first | refine br_t ?_ | refine br_f ?_ | refine br_nn ?_ | refine br_ns ?_ | refine br_not ?_ | refine br_d (fun h => ?_) (fun h => ?_) | refine br_e (fun h => ?_) (fun h => ?_) | refine br_n (fun h => ?_) (fun h => ?_) | refine drw (by kernel_rfl) ?_ | refine chk (by kernel_rfl) ?_ | refine stop ?_)
          all_goals refine Stop.mk ?_
          first
            | refine Stop.mk (hK0 _ _ ?_)
            | refine hK0 _ _ ?_
          clear hK0
          repeat' ((fail_if_success with_reducible refine Stop.mk ?_); (conv => whnf); with_reducible first | refine br_t ?_ | refine br_f ?_ | refine br_nn ?_ | refine br_ns ?_ | refine br_not ?_ | refine br_d (fun h => ?_) (fun h => ?_) | refine br_e (fun h => ?_) (fun h => ?_) | refine br_n (fun h => ?_) (fun h => ?_) | refine drw (by kernel_rfl) ?_ | refine chk (by kernel_rfl) ?_ | refine stop ?_)
          all_goals refine Stop.mk ?_
          refine fin_id hE 0 rfl rfl rfl rfl ⟨_, rfl, ⟨fun h9 => absurd h9 (by decide), fun h9 => absurd h9 (hbad ?_)⟩, rfl, rfl⟩
          rintro ⟨⟨h7, h8⟩, _⟩; omega
        ·
          refine call_fn [] (rinRange_fn _ p.l regs slots hp2) rfl trivial (by decide) ?_
          rintro sv H' G' ⟨rfl, rfl, rfl⟩ -
          refine ⟨Nat.le_of_ble_eq_true rfl, ?_⟩
          repeat' ((fail_if_success with_reducible refine Stop.mk ?_); (conv => whnf); with_reducible first | refine br_t ?_ | refine br_f ?_ | refine br_nn ?_ | refine br_ns ?_ | refine br_not ?_ | refine br_d (fun h => ?_) (fun h => ?_) | refine br_e (fun h => ?_) (fun h => ?_) | refine br_n (fun h => ?_) (fun h => ?_) | refine drw (by kernel_rfl) ?_ | refine chk (by kernel_rfl) ?_ | refine stop ?_)
          all_goals refine Stop.mk ?_
          rotate_left 2
          · refine Stop.mk (hK1 _ _ ?_)
            clear hK1
            repeat' ((fail_if_success with_reducible refine Stop.mk ?_); (conv => whnf); with_reducible first | refine br_t ?_ | refine br_f ?_ | refine br_nn ?_ | refine br_ns ?_ | refine br_not ?_ | refine br_d (fun h => ?_) (fun h => ?_) | refine br_e (fun h => ?_) (fun h => ?_) | refine br_n (fun h => ?_) (fun h => ?_) | refine drw (by kernel_rfl) ?_ | refine chk (by kernel_rfl) ?_ | refine stop ?_)
            all_goals refine Stop.mk ?_
            first
              | refine Stop.mk (hK0 _ _ ?_)
              | refine hK0 _ _ ?_
            clear hK0
            repeat' ((fail_if_success with_reducible refine Stop.mk ?_); (conv => whnf); with_reducible first | refine br_t ?_ | refine br_f ?_ | refine br_nn ?_ | refine br_ns ?_ | refine br_not ?_ | refine br_d (fun h => ?_) (fun h => ?_) | refine br_e (fun h => ?_) (fun h => ?_) | refine br_n (fun h => ?_) (fun h => ?_) | refine drw (by kernel_rfl) ?_ | refine chk (by kernel_rfl) ?_ | refine stop ?_)
            all_goals refine Stop.mk ?_
            refine fin_id hE 0 rfl rfl rfl rfl ⟨_, rfl, ⟨fun h9 => absurd h9 (by decide), fun h9 => absurd h9 (hbad ?_)⟩, rfl, rfl⟩
            rintro ⟨_, h8, _⟩; exact absurd h8 (by assumption)
          · have hin : inRange p.l regs slots := by assumption
            obtain ⟨j', rfl⟩ : ∃ j', j = j' + 1 := ⟨j - 1, by omega⟩
            have hw4 : IntKind.i64.wrap (((j' + 1 : Nat) : Int) - 1) = (j' : Int) := by rw [i64_in (by omega) (by omega)]; omega
            obtain ⟨_, hs_, hat_⟩ := hl.at (sz := 1) rfl
            refine ⟨⟨by omega, by omega⟩, _, hs_, fun ad had hadr => ?_⟩
            obtain ⟨z, cells, hz, hRz, hGz⟩ := hat_ k (by omega) ad (by first | exact had | (rw [Int.toNat_natCast] at had; exact had))
            clear had hat_ hs_
            obtain ⟨Az, cz, rfl, Sz⟩ := kPrs_R hRz
            obtain rfl := Option.some.inj (hps.symm.trans hz)
            repeat' ((fail_if_success with_reducible refine Stop.mk ?_); (conv => whnf); with_reducible first | refine br_t ?_ | refine br_f ?_ | refine br_nn ?_ | refine br_ns ?_ | refine br_not ?_ | refine br_d (fun h => ?_) (fun h => ?_) | refine br_e (fun h => ?_) (fun h => ?_) | refine br_n (fun h => ?_) (fun h => ?_) | refine drw (by kernel_rfl) ?_ | refine chk (by kernel_rfl) ?_ | refine stop ?_)
            all_goals refine Stop.mk ?_
            refine ⟨_, ld1 hGz, ?_⟩
            repeat' ((fail_if_success with_reducible refine Stop.mk ?_); (conv => whnf); with_reducible first | refine br_t ?_ | refine br_f ?_ | refine br_nn ?_ | refine br_ns ?_ | refine br_not ?_ | refine br_d (fun h => ?_) (fun h => ?_) | refine br_e (fun h => ?_) (fun h => ?_) | refine br_n (fun h => ?_) (fun h => ?_) | refine drw (by kernel_rfl) ?_ | refine chk (by kernel_rfl) ?_ | refine stop ?_)
            all_goals refine Stop.mk ?_
            rw [hw4]
            obtain ⟨_, hs_, hat_⟩ := Sz.at (sz := 2) rfl
            refine ⟨⟨by omega, by omega⟩, _, hs_, fun ad had hadr => ?_⟩
            obtain ⟨q, cells, hq, hRq, hGq⟩ := hat_ j' (by omega) ad (by first | exact had | (rw [Int.toNat_natCast] at had; exact had))
            clear had hat_ hs_
            obtain ⟨rfl, hq1, hq2⟩ := hRq
            have hgq : ps.getD (j' + 1 - 1) pr0 = q := by rw [Nat.add_sub_cancel, List.getD_eq_getElem?_getD, hq]; rfl
            repeat' ((fail_if_success with_reducible refine Stop.mk ?_); (conv => whnf); with_reducible first | refine br_t ?_ | refine br_f ?_ | refine br_nn ?_ | refine br_ns ?_ | refine br_not ?_ | refine br_d (fun h => ?_) (fun h => ?_) | refine br_e (fun h => ?_) (fun h => ?_) | refine br_n (fun h => ?_) (fun h => ?_) | refine drw (by kernel_rfl) ?_ | refine chk (by kernel_rfl) ?_ | refine stop ?_)
            all_goals refine Stop.mk ?_
            refine ⟨_, rfl, hGq, ?_⟩
            repeat' ((fail_if_success with_reducible refine Stop.mk ?_); (conv => whnf); with_reducible first | refine br_t ?_ | refine br_f ?_ | refine br_nn ?_ | refine br_ns ?_ | refine br_not ?_ | refine br_d (fun h => ?_) (fun h => ?_) | refine br_e (fun h => ?_) (fun h => ?_) | refine br_n (fun h => ?_) (fun h => ?_) | refine drw (by kernel_rfl) ?_ | refine chk (by kernel_rfl) ?_ | refine stop ?_)
            all_goals refine Stop.mk ?_
            refine call_fn [] (rless_fn _ q p) rfl trivial (by decide) ?_
            rintro sv H' G' ⟨rfl, rfl, rfl⟩ -
            refine ⟨Nat.le_of_ble_eq_true rfl, ?_⟩
            repeat' ((fail_if_success with_reducible refine Stop.mk ?_); (conv => whnf); with_reducible first | refine br_t ?_ | refine br_f ?_ | refine br_nn ?_ | refine br_ns ?_ | refine br_not ?_ | refine br_d (fun h => ?_) (fun h => ?_) | refine br_e (fun h => ?_) (fun h => ?_) | refine br_n (fun h => ?_) (fun h => ?_) | refine drw (by kernel_rfl) ?_ | refine chk (by kernel_rfl) ?_ | refine stop ?_)
            all_goals refine Stop.mk ?_
            · have hgood : chkP vregs regs slots ps (j' + 1) p := ⟨⟨by omega, by omega⟩, hin, fun _ => by rw [hgq]; assumption⟩
              rw [hw3]
              refine tell_gc hE [] rfl rfl ?_
              (conv => whnf)
              refine tell_here ⟨j' + 1 + 1, ⟨by omega, ?_⟩, by show ps.length - (j' + 1 + 1) < ps.length - (j' + 1); omega, rfl, rfl, ?_⟩
              · intro i x hi hx
                rcases Nat.lt_succ_iff_lt_or_eq.1 hi with h8 | h8
                · exact hchk i x h8 hx
                · subst h8
                  rw [hp] at hx
                  simp at hx
                  subst hx
                  exact hgood
              ·
                refine ⟨?_⟩
                (conv => whnf)
                (repeat' (first | exact trivial | exact .inl rfl | exact .inr rfl | refine And.intro ?_ ?_))
            · refine Stop.mk (hK1 _ _ ?_)
              clear hK1
              repeat' ((fail_if_success with_reducible refine Stop.mk ?_); (conv => whnf); with_reducible first | refine br_t ?_ | refine br_f ?_ | refine br_nn ?_ | refine br_ns ?_ | refine br_not ?_ | refine br_d (fun h => ?_) (fun h => ?_) | refine br_e (fun h => ?_) (fun h => ?_) | refine br_n (fun h => ?_) (fun h => ?_) | refine drw (by kernel_rfl) ?_ | refine chk (by kernel_rfl) ?_ | refine stop ?_)
              all_goals refine Stop.mk ?_
              first
                | refine Stop.mk (hK0 _ _ ?_)
                | refine hK0 _ _ ?_
              clear hK0
              repeat' ((fail_if_success with_reducible refine Stop.mk ?_); (conv => whnf); with_reducible first | refine br_t ?_ | refine br_f ?_ | refine br_nn ?_ | refine br_ns ?_ | refine br_not ?_ | refine br_d (fun h => ?_) (fun h => ?_) | refine br_e (fun h => ?_) (fun h => ?_) | refine br_n (fun h => ?_) (fun h => ?_) | refine drw (by kernel_rfl) ?_ | refine chk (by kernel_rfl) ?_ | refine stop ?_)
              all_goals refine Stop.mk ?_
              refine fin_id hE 0 rfl rfl rfl rfl ⟨_, rfl, ⟨fun h9 => absurd h9 (by decide), fun h9 => absurd h9 (hbad ?_)⟩, rfl, rfl⟩
              rintro ⟨_, _, h8⟩
              have h7 := h8 (by omega)
              rw [hgq] at h7
              exact absurd h7 (by assumption)
          · have hin : inRange p.l regs slots := by assumption
            have hgood : chkP vregs regs slots ps j p := ⟨⟨by omega, by omega⟩, hin, fun h9 => absurd h9 (by omega)⟩
            rw [hw3]
            refine tell_gc hE [] rfl rfl ?_
            (conv => whnf)
            refine tell_here ⟨j + 1, ⟨by omega, ?_⟩, by show ps.length - (j + 1) < ps.length - j; omega, rfl, rfl, ?_⟩
            · intro i x hi hx
              rcases Nat.lt_succ_iff_lt_or_eq.1 hi with h8 | h8
              · exact hchk i x h8 hx
              · subst h8
                rw [hp] at hx
                simp at hx
                subst hx
                exact hgood
            ·
              refine ⟨?_⟩
              (conv => whnf)
              (repeat' (first | exact trivial | exact .inl rfl | exact .inr rfl | refine And.intro ?_ ?_))
      · have hjl : j = ps.length := by omega
        subst hjl
        refine Stop.mk (hK1 _ _ ?_)
        clear hK1
        repeat' ((fail_if_success with_reducible refine Stop.mk ?_); (conv => whnf); with_reducible first | refine br_t ?_ | refine br_f ?_ | refine br_nn ?_ | refine br_ns ?_ | refine br_not ?_ | refine br_d (fun h => ?_) (fun h => ?_) | refine br_e (fun h => ?_) (fun h => ?_) | refine br_n (fun h => ?_) (fun h => ?_) | refine drw (by kernel_rfl) ?_ | refine chk (by kernel_rfl) ?_ | refine stop ?_)
        all_goals refine Stop.mk ?_
        rw [hw2]
        refine tell_here ⟨k + 1, ⟨by omega, ?_⟩, by show l.length - (k + 1) < l.length - k; omega, rfl, rfl, ?_⟩
        · intro x hx
          rw [List.take_add_one, hps] at hx
          rcases List.mem_append.1 hx with hx | hx
          · exact hall x hx
          · simp at hx; subst hx
            exact hix.2 fun i y hy => hchk i y (List.getElem?_eq_some_iff.1 hy).1 hy
        ·
          refine ⟨?_⟩
          (conv => whnf)
          (repeat' (first | exact trivial | exact .inl rfl | exact .inr rfl | refine And.intro ?_ ?_))
    · have hkl : k = l.length := by omega
      subst hkl
      rw [List.take_length] at hall
      refine Stop.mk (hK0 _ _ ?_)
      clear hK0
      repeat' ((fail_if_success with_reducible refine Stop.mk ?_); (conv => whnf); with_reducible first | refine br_t ?_ | refine br_f ?_ | refine br_nn ?_ | refine br_ns ?_ | refine br_not ?_ | refine br_d (fun h => ?_) (fun h => ?_) | refine br_e (fun h => ?_) (fun h => ?_) | refine br_n (fun h => ?_) (fun h => ?_) | refine drw (by kernel_rfl) ?_ | refine chk (by kernel_rfl) ?_ | refine stop ?_)
      all_goals refine Stop.mk ?_
      refine fin_all ⟨_, rfl, ⟨fun _ => ⟨by assumption, hiff.2 ⟨htk, hall⟩⟩, fun _ => rfl⟩, rfl, rfl⟩
end Go.Proofs.Ytglelcgllodhoaa.Cu
