/- Invariants: the reference's checks. -/
import Derived.Test.YtchebkpcgglllaaGreatWi4
import Derived.Test.YtchebkpcgglllaaGreatSXc
namespace Go.Proofs.YtchebkpcgglllaaGreat.Cu
open Go Go.SX Go.Proofs.YtchebkpcgglllaaGreat.VT
set_option maxRecDepth 100000
set_option linter.unusedVariables false
set_option linter.unusedSimpArgs false

def ltP (a b : Pr) : Prop := a.v < b.v ∨ (a.v = b.v ∧ a.l < b.l)
instance (a b : Pr) : Decidable (ltP a b) := inferInstanceAs (Decidable (_ ∨ _))
def tot : List (List Pr) → Nat
  | [] => 0
  | x :: xs => x.length + tot xs
theorem tot_take : ∀ (l : List (List Pr)) (k : Nat) (x : List Pr), l[k]? = some x → tot (l.take (k + 1)) = tot (l.take k) + x.length
  | [], k, x, h => by simp at h
  | y :: l, 0, x, h => by simp at h; subst h; simp [tot]
  | y :: l, k + 1, x, h => by
    have := tot_take l k x (by simpa using h)
    simp only [List.take_succ_cons, tot, this]; omega
theorem tot_le : ∀ (l : List (List Pr)) (k : Nat), tot (l.take k) ≤ tot l
  | [], k => by simp
  | y :: l, 0 => by simp [tot]
  | y :: l, k + 1 => by have := tot_le l k; simp only [List.take_succ_cons, tot]; omega
theorem okInv_iff (vregs regs slots : Int) : ∀ (l : List (List Pr)) (t : Int), 0 ≤ t → (okL (okBlk vregs regs slots) nxT t l ↔ ((l = [] ∨ t + tot l ≤ 1048576) ∧ ∀ x ∈ l, okPrs vregs regs slots x))
  | [], t, _ => by simp [okL]
  | x :: l, t, ht => by
    have h := okInv_iff vregs regs slots l (nxT t x) (by unfold nxT; omega)
    simp only [okL, tot]
    rw [h]
    unfold okBlk nxT
    constructor
    · rintro ⟨⟨h1, h2⟩, h3, h4⟩
      refine ⟨.inr ?_, ?_⟩
      · rcases h3 with rfl | h3
        · simp [tot]; omega
        · push_cast; omega
      · intro y hy
        rcases List.mem_cons.1 hy with rfl | hy
        · exact h2
        · exact h4 y hy
    · rintro ⟨h1, h2⟩
      have h1' : t + ((x.length + tot l : Nat) : Int) ≤ 1048576 := by
        rcases h1 with h1 | h1
        · simp at h1
        · exact h1
      exact ⟨⟨by omega, h2 x (by simp)⟩, .inr (by omega), fun y hy => h2 y (by simp [hy])⟩
theorem okInv_tot (vregs regs slots : Int) (l : List (List Pr)) : okInv vregs regs slots l ↔ (tot l ≤ 1048576 ∧ ∀ x ∈ l, okPrs vregs regs slots x) := by
  unfold okInv
  rw [okInv_iff vregs regs slots l 0 (Int.le_refl _)]
  constructor
  · rintro ⟨h1, h2⟩
    refine ⟨?_, h2⟩
    rcases h1 with rfl | h1
    · simp [tot]
    · omega
  · rintro ⟨h1, h2⟩
    exact ⟨.inr (by omega), h2⟩
/-- What is checked of the pair at j. -/
def chkP (vregs regs slots : Int) (ps : List Pr) (j : Nat) (x : Pr) : Prop := (0 ≤ x.v ∧ x.v < vregs) ∧ inRange x.l regs slots ∧ (0 < j → ltP (ps.getD (j - 1) pr0) x)
theorem okL_ix {vregs regs slots : Int} : ∀ (ps : List Pr) (s : PS), okL (okPr vregs regs slots) nxP s ps ↔ ∀ j x, ps[j]? = some x → okPr vregs regs slots (if j = 0 then s else (false, ps.getD (j - 1) pr0)) x
  | [], s => by simp [okL]
  | p :: ps, s => by
    simp only [okL]
    rw [okL_ix ps (nxP s p)]
    constructor
    · rintro ⟨h1, h2⟩ j x hx
      cases j with
      | zero => simp at hx; subst hx; simpa using h1
      | succ j =>
        have := h2 j x (by simpa using hx)
        rw [if_neg (by omega)]
        cases j with
        | zero => simpa [nxP] using this
        | succ j => simpa using this
    · intro h
      refine ⟨by simpa using h 0 p (by simp), fun j x hx => ?_⟩
      have := h (j + 1) x (by simpa using hx)
      rw [if_neg (by omega)] at this
      cases j with
      | zero => simpa [nxP] using this
      | succ j => simpa using this
theorem okPrs_ix (vregs regs slots : Int) (ps : List Pr) : okPrs vregs regs slots ps ↔ ∀ j x, ps[j]? = some x → chkP vregs regs slots ps j x := by
  unfold okPrs
  rw [okL_ix]
  constructor
  · intro h
    have hv : ∀ (j : Nat) (x : Pr), ps[j]? = some x → 0 ≤ x.v := by
      intro j
      induction j with
      | zero =>
        intro x hx
        exact (h 0 x hx).1
      | succ j ih =>
        intro x hx
        have h1 := (h (j + 1) x hx).1
        rw [if_neg (by omega)] at h1
        have hj : j < ps.length := by have := (List.getElem?_eq_some_iff.1 hx).1; omega
        have h2 := ih ps[j] (List.getElem?_eq_getElem hj)
        have h3 : ps.getD (j + 1 - 1) pr0 = ps[j] := by rw [Nat.add_sub_cancel, List.getD_eq_getElem?_getD, List.getElem?_eq_getElem hj]; rfl
        rw [h3] at h1
        dsimp only at h1
        omega
    intro j x hx
    obtain ⟨h1, h2, h3, h4⟩ := h j x hx
    refine ⟨⟨hv j x hx, h2⟩, h3, fun hj => ?_⟩
    rw [if_neg (by omega)] at h1 h4
    dsimp only at h1 h4
    have h5 := h4 rfl
    unfold ltP
    rcases Int.lt_or_eq_of_le h1 with h6 | h6
    · exact .inl h6
    · exact .inr ⟨h6, h5 h6.symm⟩
  · intro h j x hx
    obtain ⟨⟨h1, h2⟩, h3, h4⟩ := h j x hx
    by_cases hj : j = 0
    · rw [if_pos hj]
      exact ⟨h1, h2, h3, fun h9 => absurd h9 (by decide)⟩
    · rw [if_neg hj]
      have h5 := h4 (by omega)
      unfold ltP at h5
      refine ⟨?_, h2, h3, fun _ h9 => ?_⟩ <;> dsimp only at * <;> omega
theorem rless_fn (G : Gh) (a b : Pr) : Ct Tryz.prog 109 [a.sv, b.sv] [] G fun sv H' G' => sv = .v (.bool (decide (ltP a b))) ∧ H' = [] ∧ G' = G := by
  refine fn_of follows [] Tryz.func109 rfl rfl fun E hE => ?_
  repeat' ((fail_if_success with_reducible refine Stop.mk ?_);(conv=>whnf);with_reducible first|refine br_n (fun h=>?_) fun h=>?_|refine stop ?_)
  all_goals refine Stop.mk ?_
  all_goals
    refine fin_id hE 0 rfl rfl rfl rfl ⟨congrArg (fun b => SV.v (.bool b)) ?_, rfl, rfl⟩
    refine bdec ?_
    simp only [decide_eq_true_iff, ltP]
    omega
theorem rfew15_fn (G : Gh) (A : Option Addr) (c : Nat) (l : List (List Pr)) (hl : kPrs.S G A c l) :
    Ct Tryz.prog 21 [.v (.slice A l.length c)] [] G fun sv H' G' => (∃ r, sv = .v (.bool r) ∧ (r = true → l.length ≤ 40 ∧ ∀ x ∈ l, x.length ≤ 400)) ∧ H' = [] ∧ G' = G := by
  refine fn_of follows [] Tryz.func21 rfl rfl fun E hE => ?_
  have hcap := hl.cap
  repeat' ((fail_if_success with_reducible refine Stop.mk ?_);(conv=>whnf);with_reducible refine stop ?_)
  all_goals refine Stop.mk ?_
  refine loop_vars follows [] (α := Nat) (fun k => [(3, .v (.int .i64 k))]) (fun x => []) (fun x => G) (fun k => k ≤ l.length ∧ k ≤ 41 ∧ ∀ x ∈ l.take k, x.length ≤ 400) (fun k => l.length - k) 0
    ⟨Nat.zero_le _, Nat.zero_le _, by simp⟩ rfl rfl ?_ ?_
  ·
    refine ⟨?_⟩
    (conv => whnf)
    (repeat' (first | exact trivial | exact .inl rfl | exact .inr rfl | refine And.intro ?_ ?_))
  intro k hI
  obtain ⟨hk, hk2, hall⟩ := hI
  have hw2 : IntKind.i64.wrap ((k : Int) + 1) = ((k + 1 : Nat) : Int) := by rw [i64_in (by omega) (by omega)]; simp
  repeat' ((fail_if_success with_reducible refine Stop.mk ?_);(conv=>whnf);with_reducible first|refine br_f ?_|refine br_d (fun h=>?_) fun h=>?_|refine stop ?_)
  all_goals refine Stop.mk ?_
  all_goals try
    obtain ⟨_, hs_, hat_⟩ := hl.at (sz := 1) rfl
    refine ⟨⟨by omega, by omega⟩, _, hs_, fun ad had hadr => ?_⟩
    obtain ⟨ps, cells, hps, hRps, hGps⟩ := hat_ k (by omega) ad (by first | exact had | (rw [Int.toNat_natCast] at had; exact had))
    clear had hat_ hs_
    obtain ⟨A', c', rfl, hS⟩ := kPrs_R hRps
    repeat' ((fail_if_success with_reducible refine Stop.mk ?_);(conv=>whnf);with_reducible refine stop ?_)
    all_goals refine Stop.mk ?_
    refine ⟨_, ld1 hGps, ?_⟩
    repeat' ((fail_if_success with_reducible refine Stop.mk ?_);(conv=>whnf);with_reducible first|refine br_d (fun h=>?_) fun h=>?_|refine stop ?_)
    all_goals refine Stop.mk ?_
  all_goals try
    refine fin_all ⟨⟨_, rfl, fun h => ?_⟩, rfl, rfl⟩
    first
      | exact absurd h (by decide)
      | (have h40 := of_decide_eq_true h
         obtain rfl : k = l.length := by omega
         rw [List.take_length] at hall
         exact ⟨by omega, hall⟩)
  all_goals
    rw [hw2]
    refine tell_here ⟨k + 1, ⟨by omega, by omega, ?_⟩, by show l.length - (k + 1) < l.length - k; omega, rfl, rfl, ?_⟩
    · intro x hx
      rw [List.take_add_one, hps] at hx
      rcases List.mem_append.1 hx with hx | hx
      · exact hall x hx
      · simp at hx; subst hx; omega
    ·
      refine ⟨?_⟩
      (conv => whnf)
      (repeat' (first | exact trivial | exact .inl rfl | exact .inr rfl | refine And.intro ?_ ?_))
theorem same11_fn (G : Gh) (A B : Option Addr) (c d : Nat) (ls ms : List Pr) (hl : kPr.S G A c ls) (hm : kPr.S G B d ms) :
    Ct Tryz.prog 103 [.v (.slice A ls.length c), .v (.slice B ms.length d)] [] G fun sv H' G' => sv = .v (.bool (decide (ls = ms))) ∧ H' = [] ∧ G' = G := by
  refine fn_of follows [(6, (.cons 0 [] (.cons 1 [] (.cons 2 [] (.cons 3 [] (.cons 4 [] (.cons 5 [] (.cons 6 [] (.cons 7 [] (.cons 8 [] .nil))))))))))] Tryz.func103 rfl rfl fun E hE => ?_
  have hcap := hl.cap
  have hcap2 := hm.cap
  repeat' ((fail_if_success with_reducible refine Stop.mk ?_);(conv=>whnf);with_reducible first|refine br_n (fun h=>?_) fun h=>?_|refine stop ?_)
  all_goals refine Stop.mk ?_
  · refine loop_vars follows [(6, (.cons 0 [] (.cons 1 [] (.cons 2 [] (.cons 3 [] (.cons 4 [] (.cons 5 [] (.cons 6 [] (.cons 7 [] (.cons 8 [] .nil))))))))))] (α := Nat) (fun x => [(5, .v (.int .i64 x))]) (fun x => []) (fun x => G) (fun k => k ≤ ls.length ∧ ls.take k = ms.take k) (fun x => ls.length - x) 0
      ⟨Nat.zero_le _, rfl⟩ rfl rfl ?_ ?_
    ·
      refine ⟨?_⟩
      (conv => whnf)
      (repeat' (first | exact trivial | exact .inl rfl | exact .inr rfl | refine And.intro ?_ ?_))
    intro k hI
    obtain ⟨hk, heq⟩ := hI
    have hw2 : k < ls.length → IntKind.i64.wrap ((k : Int) + 1) = ((k + 1 : Nat) : Int) := fun h => by rw [i64_in (by omega) (by omega)]; simp
    repeat' ((fail_if_success with_reducible refine Stop.mk ?_);(conv=>whnf);with_reducible first|refine br_d (fun h=>?_) fun h=>?_|refine drw (by kernel_rfl) ?_|refine stop ?_)
    all_goals refine Stop.mk ?_
    ·
      obtain ⟨_, hs_, hat_⟩ := hl.at (sz := 2) rfl
      refine ⟨⟨by omega, by omega⟩, _, hs_, fun ad had hadr => ?_⟩
      obtain ⟨x, cells, hx, hRx, hGx⟩ := hat_ k (by omega) ad (by first | exact had | (rw [Int.toNat_natCast] at had; exact had))
      clear had hat_ hs_
      obtain ⟨rfl, hx1, hx2⟩ := hRx
      repeat' ((fail_if_success with_reducible refine Stop.mk ?_);(conv=>whnf);with_reducible refine stop ?_)
      all_goals refine Stop.mk ?_
      refine ⟨_, rfl, hGx, ?_⟩
      repeat' ((fail_if_success with_reducible refine Stop.mk ?_);(conv=>whnf);with_reducible refine stop ?_)
      all_goals refine Stop.mk ?_
      obtain ⟨_, hs_, hat_⟩ := hm.at (sz := 2) rfl
      refine ⟨⟨by omega, by omega⟩, _, hs_, fun ad had hadr => ?_⟩
      obtain ⟨y, cells, hy, hRy, hGy⟩ := hat_ k (by omega) ad (by first | exact had | (rw [Int.toNat_natCast] at had; exact had))
      clear had hat_ hs_
      obtain ⟨rfl, hy1, hy2⟩ := hRy
      repeat' ((fail_if_success with_reducible refine Stop.mk ?_);(conv=>whnf);with_reducible refine stop ?_)
      all_goals refine Stop.mk ?_
      refine ⟨_, rfl, hGy, ?_⟩
      repeat' ((fail_if_success with_reducible refine Stop.mk ?_);(conv=>whnf);with_reducible first|refine br_not ?_|refine br_d (fun h=>?_) fun h=>?_|refine chk (by kernel_rfl) ?_|refine stop ?_)
      all_goals refine Stop.mk ?_
      · have hxy : x = y := by
          obtain ⟨xv, xl⟩ := x
          obtain ⟨yv, yl⟩ := y
          simp only [List.cons.injEq] at h
          rw [h.1, h.2.1]
        subst hxy
        rw [hw2 (by omega)]
        refine tell_here ⟨k + 1, ⟨by omega, ?_⟩, by show ls.length - (k + 1) < ls.length - k; omega, rfl, rfl, ?_⟩
        · rw [List.take_add_one, List.take_add_one, heq, hx, hy]
        ·
          refine ⟨?_⟩
          (conv => whnf)
          (repeat' (first | exact trivial | exact .inl rfl | exact .inr rfl | refine And.intro ?_ ?_))
      · refine fin_all ⟨?_, rfl, rfl⟩
        rw [decide_eq_false]
        intro he
        subst he
        rw [hx] at hy
        simp at hy
        subst hy
        exact h rfl
    · refine fin_all ⟨?_, rfl, rfl⟩
      rw [decide_eq_true]
      rw [List.take_of_length_le (by omega), List.take_of_length_le (by omega)] at heq
      exact heq
  · refine fin_all ⟨?_, rfl, rfl⟩
    rw [decide_eq_false]
    intro he
    subst he
    exact absurd rfl (by assumption)
theorem same15_fn (G : Gh) (A B : Option Addr) (c d : Nat) (ls ms : List (List Pr)) (hl : kPrs.S G A c ls) (hm : kPrs.S G B d ms) :
    Ct Tryz.prog 52 [.v (.slice A ls.length c), .v (.slice B ms.length d)] [] G fun sv H' G' => sv = .v (.bool (decide (ls = ms))) ∧ H' = [] ∧ G' = G := by
  refine fn_of follows [(6, (.cons 0 [] (.cons 1 [] (.cons 2 [] (.cons 3 [] (.cons 4 [] (.cons 5 [] (.cons 6 [] (.cons 7 [] (.cons 8 [3, 7] (.cons 9 [] .nil)))))))))))] Tryz.func52 rfl rfl fun E hE => ?_
  have hcap := hl.cap
  have hcap2 := hm.cap
  repeat' ((fail_if_success with_reducible refine Stop.mk ?_);(conv=>whnf);with_reducible first|refine br_n (fun h=>?_) fun h=>?_|refine stop ?_)
  all_goals refine Stop.mk ?_
  · refine loop_vars follows [(6, (.cons 0 [] (.cons 1 [] (.cons 2 [] (.cons 3 [] (.cons 4 [] (.cons 5 [] (.cons 6 [] (.cons 7 [] (.cons 8 [3, 7] (.cons 9 [] .nil)))))))))))] (α := Nat) (fun x => [(5, .v (.int .i64 x))]) (fun x => []) (fun x => G) (fun k => k ≤ ls.length ∧ ls.take k = ms.take k) (fun x => ls.length - x) 0
      ⟨Nat.zero_le _, rfl⟩ rfl rfl ?_ ?_
    ·
      refine ⟨?_⟩
      (conv => whnf)
      (repeat' (first | exact trivial | exact .inl rfl | exact .inr rfl | refine And.intro ?_ ?_))
    intro k hI
    obtain ⟨hk, heq⟩ := hI
    have hw2 : k < ls.length → IntKind.i64.wrap ((k : Int) + 1) = ((k + 1 : Nat) : Int) := fun h => by rw [i64_in (by omega) (by omega)]; simp
    repeat' ((fail_if_success with_reducible refine Stop.mk ?_);(conv=>whnf);with_reducible first|refine br_d (fun h=>?_) fun h=>?_|refine drw (by kernel_rfl) ?_|refine stop ?_)
    all_goals refine Stop.mk ?_
    ·
      obtain ⟨_, hs_, hat_⟩ := hl.at (sz := 1) rfl
      refine ⟨⟨by omega, by omega⟩, _, hs_, fun ad had hadr => ?_⟩
      obtain ⟨x, cells, hx, hRx, hGx⟩ := hat_ k (by omega) ad (by first | exact had | (rw [Int.toNat_natCast] at had; exact had))
      clear had hat_ hs_
      obtain ⟨A', c', rfl, hs⟩ := kPrs_R hRx
      repeat' ((fail_if_success with_reducible refine Stop.mk ?_);(conv=>whnf);with_reducible refine stop ?_)
      all_goals refine Stop.mk ?_
      refine ⟨_, ld1 hGx, ?_⟩
      repeat' ((fail_if_success with_reducible refine Stop.mk ?_);(conv=>whnf);with_reducible refine stop ?_)
      all_goals refine Stop.mk ?_
      obtain ⟨_, hs_, hat_⟩ := hm.at (sz := 1) rfl
      refine ⟨⟨by omega, by omega⟩, _, hs_, fun ad had hadr => ?_⟩
      obtain ⟨y, cells, hy, hRy, hGy⟩ := hat_ k (by omega) ad (by first | exact had | (rw [Int.toNat_natCast] at had; exact had))
      clear had hat_ hs_
      obtain ⟨A2, c2, rfl, hs2⟩ := kPrs_R hRy
      repeat' ((fail_if_success with_reducible refine Stop.mk ?_);(conv=>whnf);with_reducible refine stop ?_)
      all_goals refine Stop.mk ?_
      refine ⟨_, ld1 hGy, ?_⟩
      repeat' ((fail_if_success with_reducible refine Stop.mk ?_);(conv=>whnf);with_reducible refine stop ?_)
      all_goals refine Stop.mk ?_
      refine call_fn [] (same11_fn _ A' A2 c' c2 x y hs hs2) rfl trivial (by decide) ?_
      rintro sv H' G' ⟨rfl, rfl, rfl⟩ -
      refine ⟨Nat.le_of_ble_eq_true rfl, ?_⟩
      repeat' ((fail_if_success with_reducible refine Stop.mk ?_);(conv=>whnf);with_reducible first|refine br_not ?_|refine br_d (fun h=>?_) fun h=>?_|refine stop ?_)
      all_goals refine Stop.mk ?_
      · have hxy : x = y := by assumption
        subst hxy
        rw [hw2 (by omega)]
        refine tell_here ⟨k + 1, ⟨by omega, ?_⟩, by show ls.length - (k + 1) < ls.length - k; omega, rfl, rfl, ?_⟩
        · rw [List.take_add_one, List.take_add_one, heq, hx, hy]
        ·
          refine ⟨?_⟩
          (conv => whnf)
          (repeat' (first | exact trivial | exact .inl rfl | exact .inr rfl | refine And.intro ?_ ?_))
      · refine fin_all ⟨?_, rfl, rfl⟩
        rw [decide_eq_false]
        intro he
        subst he
        rw [hx] at hy
        simp at hy
        exact absurd hy (by assumption)
    · refine fin_all ⟨?_, rfl, rfl⟩
      rw [decide_eq_true]
      rw [List.take_of_length_le (by omega), List.take_of_length_le (by omega)] at heq
      exact heq
  · refine fin_all ⟨?_, rfl, rfl⟩
    rw [decide_eq_false]
    intro he
    subst he
    exact absurd rfl (by assumption)
/-- What Valid accepts. -/
def validI (blocks vregs regs slots : Int) (l : List (List Pr)) : Prop := (l.length : Int) = blocks ∧ okInv vregs regs slots l
end Go.Proofs.YtchebkpcgglllaaGreat.Cu
