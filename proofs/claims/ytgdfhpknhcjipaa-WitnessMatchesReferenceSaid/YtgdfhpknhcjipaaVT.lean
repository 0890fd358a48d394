/- The plain law of the variable-length integers: what encodes, what decodes, and that the two are inverse. No program, no memory. -/
import Derived.Laws.BitsAllLaws
import Derived.RowKit
namespace Go.Proofs.Ytgdfhpknhcjipaa.VT
open Go.RowKit

/-- The digits of n, at most j + 1 of them. -/
def vput : Nat → Nat → List Int
  | 0, n => [(n : Int)]
  | j + 1, n => if n < 128 then [(n : Int)] else (((n % 128 + 128 : Nat) : Int)) :: vput j (n / 128)

/-- What the bytes from digit k on decode to: the number, the count of digits read so far, the error. -/
def vdec : Nat → List Int → Int × Int × Int
  | _, [] => (0, 0, 1)
  | k, c :: r =>
    if (k = 9 ∧ c > 1) ∨ (k > 0 ∧ c = 0) then (0, 0, 3)
    else if c < 128 then (c, (k : Int) + 1, 0)
    else if (vdec (k + 1) r).2.2 = 0 then (c - 128 + 128 * (vdec (k + 1) r).1, (vdec (k + 1) r).2.1, 0)
    else (0, 0, (vdec (k + 1) r).2.2)

theorem vput_ne (j n : Nat) : vput j n ≠ [] := by
  cases j with
  | zero => simp [vput]
  | succ j => unfold vput; split <;> simp
theorem vput_len_pos (j n : Nat) : 0 < (vput j n).length := List.length_pos_iff.2 (vput_ne j n)
theorem vput_len_le (j n : Nat) : (vput j n).length ≤ j + 1 := by
  induction j generalizing n with
  | zero => simp [vput]
  | succ j ih =>
    unfold vput
    split
    · simp
    · have := ih (n / 128)
      simp only [List.length_cons]
      omega
theorem vput_byte (j : Nat) : ∀ n : Nat, n < 2 ^ (1 + 7 * j) → ∀ x ∈ vput j n, 0 ≤ x ∧ x ≤ 255 := by
  induction j with
  | zero => intro n hn x hx; simp [vput] at hx hn; omega
  | succ j ih =>
    intro n hn x hx
    unfold vput at hx
    split at hx
    · simp at hx; omega
    · simp only [List.mem_cons] at hx
      rcases hx with rfl | hx
      · omega
      · refine ih (n / 128) ?_ x hx
        have : 2 ^ (1 + 7 * (j + 1)) = 128 * 2 ^ (1 + 7 * j) := by rw [show 1 + 7 * (j + 1) = 7 + (1 + 7 * j) by omega, Nat.pow_add]
        omega

theorem pow_step (j : Nat) : 2 ^ (1 + 7 * (j + 1)) = 128 * 2 ^ (1 + 7 * j) := by
  rw [show 1 + 7 * (j + 1) = 7 + (1 + 7 * j) by omega, Nat.pow_add]

/-- Whatever the bytes are: an error, or a number whose digits they begin with. -/
theorem vdec_spec (l : List Int) : ∀ k : Nat, k ≤ 9 → (∀ x ∈ l, 0 ≤ x ∧ x ≤ 255) →
    (∃ e : Int, (e = 1 ∨ e = 3) ∧ vdec k l = (0, 0, e)) ∨
    (∃ n m : Nat, vdec k l = ((n : Int), ((k + m : Nat) : Int), 0) ∧ n < 2 ^ (1 + 7 * (9 - k)) ∧ (k > 0 → 0 < n) ∧ 0 < m ∧ m ≤ l.length ∧ k + m ≤ 10 ∧ l.take m = vput (9 - k) n) := by
  induction l with
  | nil => intro k _ _; exact .inl ⟨1, .inl rfl, rfl⟩
  | cons c r ih =>
    intro k hk hb
    have hc := hb c (by simp)
    have hr : ∀ x ∈ r, 0 ≤ x ∧ x ≤ 255 := fun x hx => hb x (by simp [hx])
    by_cases h1 : (k = 9 ∧ c > 1) ∨ (k > 0 ∧ c = 0)
    · exact .inl ⟨3, .inr rfl, by rw [vdec, if_pos h1]⟩
    · by_cases h2 : c < 128
      · obtain ⟨n, rfl⟩ := Int.eq_ofNat_of_zero_le hc.1
        refine .inr ⟨n, 1, by rw [vdec, if_neg h1, if_pos h2]; push_cast; rfl, ?_, by omega, by omega, by simp, by omega, ?_⟩
        · by_cases h9 : k = 9
          · subst h9; simp; omega
          · obtain ⟨j, hj⟩ : ∃ j, 9 - k = j + 1 := ⟨8 - k, by omega⟩
            rw [hj, pow_step]
            have : 0 < 2 ^ (1 + 7 * j) := Nat.pow_pos (by decide)
            omega
        · cases 9 - k with
          | zero => simp [vput]
          | succ j => simp only [vput, List.take_succ_cons, List.take_zero]; rw [if_pos (by omega)]
      · have hk9 : k ≠ 9 := by omega
        obtain ⟨j, hj⟩ : ∃ j, 9 - k = j + 1 := ⟨8 - k, by omega⟩
        have hj' : 9 - (k + 1) = j := by omega
        rcases ih (k + 1) (by omega) hr with ⟨e, he, hd⟩ | ⟨n, m, hd, hn, hp, hm, hml, hkm, ht⟩
        · refine .inl ⟨e, he, ?_⟩
          rw [vdec, if_neg h1, if_neg h2, hd]
          simp only
          rw [if_neg (by omega)]
        · obtain ⟨d, rfl⟩ := Int.eq_ofNat_of_zero_le hc.1
          refine .inr ⟨d - 128 + 128 * n, m + 1, ?_, ?_, by omega, by omega, by simpa using hml, by omega, ?_⟩
          · rw [vdec, if_neg h1, if_neg h2, hd]
            simp only [if_true]
            refine Prod.ext ?_ (Prod.ext ?_ rfl)
            · simp only; omega
            · simp only; omega
          · rw [hj, pow_step]; rw [hj'] at hn; omega
          · rw [hj, vput, if_neg (by omega), List.take_succ_cons, ht, hj']
            congr 1
            · omega
            · congr 1; omega

theorem vdec_vput (j : Nat) : ∀ (k n : Nat) (rest : List Int), k + j = 9 → n < 2 ^ (1 + 7 * j) → (k > 0 → 0 < n) →
    vdec k (vput j n ++ rest) = ((n : Int), ((k + (vput j n).length : Nat) : Int), 0) := by
  induction j with
  | zero =>
    intro k n rest hk hn hp
    simp at hn
    simp only [vput, List.cons_append, List.nil_append, vdec, List.length_cons, List.length_nil]
    rw [if_neg (by omega), if_pos (by omega)]
    push_cast; rfl
  | succ j ih =>
    intro k n rest hk hn hp
    by_cases h : n < 128
    · simp only [vput]
      rw [if_pos h]
      simp only [List.cons_append, List.nil_append, vdec, List.length_cons, List.length_nil]
      rw [if_neg (by omega), if_pos (by omega)]
      push_cast; rfl
    · rw [pow_step] at hn
      simp only [vput]
      rw [if_neg h]
      simp only [List.cons_append, vdec, List.length_cons]
      rw [if_neg (by omega), if_neg (by omega), ih (k + 1) (n / 128) rest (by omega) (by omega) (by omega)]
      simp only [if_true]
      refine Prod.ext ?_ (Prod.ext ?_ rfl)
      · simp only; omega
      · simp only; omega

/-- The digits of a number of 64 bits are decoded, whatever follows. -/
theorem vdec_put (n : Nat) (h : n < 18446744073709551616) (rest : List Int) : vdec 0 (vput 9 n ++ rest) = ((n : Int), ((vput 9 n).length : Int), 0) := by
  have := vdec_vput 9 0 n rest rfl (by simpa using h) (by omega)
  simpa using this

theorem vput_inj {n m : Nat} (hn : n < 18446744073709551616) (hm : m < 18446744073709551616) (h : vput 9 n = vput 9 m) : n = m := by
  have h1 := vdec_put n hn []
  have h2 := vdec_put m hm []
  rw [h, h2] at h1
  have := congrArg Prod.fst h1
  simp only at this
  omega

/-- A proper prefix lacks bytes. -/
theorem vdec_prefix (j : Nat) : ∀ (k n m : Nat), k + j = 9 → m < (vput j n).length → vdec k ((vput j n).take m) = (0, 0, 1) := by
  induction j with
  | zero =>
    intro k n m hk hm
    simp [vput] at hm
    subst hm
    rfl
  | succ j ih =>
    intro k n m hk hm
    cases m with
    | zero => rfl
    | succ m =>
      by_cases h : n < 128
      · simp only [vput] at hm
        rw [if_pos h] at hm
        simp at hm
      · simp only [vput] at hm ⊢
        rw [if_neg h] at hm ⊢
        simp only [List.length_cons] at hm
        simp only [List.take_succ_cons, vdec]
        rw [if_neg (by omega), if_neg (by omega), ih (k + 1) (n / 128) m (by omega) (by omega)]
        simp

/-- The digits with a digit 0 more. -/
def vlong : Nat → Nat → List Int
  | 0, n => [((n + 128 : Nat) : Int), 0]
  | j + 1, n => if n < 128 then [((n + 128 : Nat) : Int), 0] else (((n % 128 + 128 : Nat) : Int)) :: vlong j (n / 128)
theorem vdec_long (j : Nat) : ∀ (k n : Nat), k + j = 9 → n < 2 ^ (1 + 7 * j) → vdec k (vlong j n) = (0, 0, 3) := by
  induction j with
  | zero =>
    intro k n hk hn
    simp only [vlong, vdec]
    rw [if_pos (by omega)]
  | succ j ih =>
    intro k n hk hn
    rw [pow_step] at hn
    by_cases h : n < 128
    · simp only [vlong]
      rw [if_pos h]
      simp only [vdec]
      rw [if_neg (by omega), if_neg (by omega)]
      simp
    · simp only [vlong]
      rw [if_neg h]
      simp only [vdec]
      rw [if_neg (by omega), if_neg (by omega), ih (k + 1) (n / 128) (by omega) (by omega)]
      simp
/-- The last digit, where 128 is added. -/
theorem vlong_set (j : Nat) : ∀ n : Nat, n < 2 ^ (1 + 7 * j) → (vput j n).set ((vput j n).length - 1) (((vput j n).getD ((vput j n).length - 1) 0 + 128) % 256) ++ [0] = vlong j n := by
  induction j with
  | zero =>
    intro n hn
    simp at hn
    simp [vput, vlong]
    omega
  | succ j ih =>
    intro n hn
    rw [pow_step] at hn
    by_cases h : n < 128
    · simp only [vput, vlong]
      rw [if_pos h, if_pos h]
      simp
      omega
    · have hl := vput_len_pos j (n / 128)
      obtain ⟨m, hm⟩ : ∃ m, (vput j (n / 128)).length = m + 1 := ⟨(vput j (n / 128)).length - 1, by omega⟩
      have hi := ih (n / 128) (by omega)
      rw [hm] at hi
      simp only [vput, vlong]
      rw [if_neg h, if_neg h]
      simp only [List.length_cons, hm, Nat.add_sub_cancel, List.set_cons_succ, List.getD_cons_succ, List.cons_append]
      simp only [Nat.add_sub_cancel] at hi
      rw [hi]

/-! ### the length -/
/-- b is the number of bits of n. -/
def IsLen (n b : Nat) : Prop := (n = 0 ∧ b = 0) ∨ (0 < b ∧ 2 ^ (b - 1) ≤ n ∧ n < 2 ^ b)
theorem IsLen.shift {x s b : Nat} (h : IsLen (x / 2 ^ s) b) (hx : 2 ^ s ≤ x) : IsLen x (b + s) := by
  have hp : 0 < 2 ^ s := Nat.pow_pos (by decide)
  rcases h with ⟨h0, _⟩ | ⟨hb, h1, h2⟩
  · have := Nat.div_eq_zero_iff.1 h0
    omega
  · refine .inr ⟨by omega, ?_, ?_⟩
    · rw [show b + s - 1 = (b - 1) + s by omega, Nat.pow_add]
      exact (Nat.le_div_iff_mul_le hp).1 h1
    · rw [Nat.pow_add]
      exact (Nat.div_lt_iff_lt_mul hp).1 h2
theorem IsLen.small {n b : Nat} (h : IsLen n b) (s : Nat) (hn : n < 2 ^ s) : b ≤ s := by
  rcases h with ⟨_, h0⟩ | ⟨hb, h1, h2⟩
  · omega
  · rcases Nat.lt_or_ge s b with hlt | hge
    · have := Nat.pow_le_pow_right (n := 2) (by decide) (show s ≤ b - 1 by omega)
      omega
    · exact hge
theorem IsLen.large {n b : Nat} (h : IsLen n b) (s : Nat) (hn : 2 ^ s ≤ n) : s < b := by
  have hp : 0 < 2 ^ s := Nat.pow_pos (by decide)
  rcases h with ⟨h0, _⟩ | ⟨hb, h1, h2⟩
  · omega
  · rcases Nat.lt_or_ge s b with hlt | hge
    · exact hlt
    · have := Nat.pow_le_pow_right (n := 2) (by decide) hge
      omega
theorem IsLen.down {x s b : Nat} (h : IsLen x b) (hx : 2 ^ s ≤ x) : IsLen (x / 2 ^ s) (b - s) := by
  have hp : 0 < 2 ^ s := Nat.pow_pos (by decide)
  have hs := h.large s hx
  rcases h with ⟨h0, _⟩ | ⟨hb, h1, h2⟩
  · omega
  · refine .inr ⟨by omega, ?_, ?_⟩
    · rw [Nat.le_div_iff_mul_le hp, ← Nat.pow_add, show b - s - 1 + s = b - 1 by omega]; exact h1
    · rw [Nat.div_lt_iff_lt_mul hp, ← Nat.pow_add, show b - s + s = b by omega]; exact h2
theorem vput_len (j : Nat) : ∀ n b : Nat, n < 2 ^ (1 + 7 * j) → IsLen n b → (vput j n).length = max 1 ((b + 6) / 7) := by
  induction j with
  | zero =>
    intro n b hn h
    have := h.small 1 (by simpa using hn)
    simp only [vput, List.length_cons, List.length_nil]
    omega
  | succ j ih =>
    intro n b hn h
    rw [pow_step] at hn
    by_cases h' : n < 128
    · have := h.small 7 (by simpa using h')
      simp only [vput]
      rw [if_pos h']
      simp only [List.length_cons, List.length_nil]
      omega
    · have hb := h.large 7 (by simp; omega)
      have hd := h.down (s := 7) (by simp; omega)
      have hi := ih (n / 128) (b - 7) (by omega) hd
      simp only [vput]
      rw [if_neg h']
      simp only [List.length_cons, hi]
      omega

/-! ### m digits, of which all but the last bear the mark -/
def vputM : Nat → Nat → List Int
  | 0, _ => []
  | 1, x => [((x % 128 : Nat) : Int)]
  | m + 2, x => ((x % 128 + 128 : Nat) : Int) :: vputM (m + 1) (x / 128)
theorem vputM_vput (j : Nat) : ∀ n : Nat, n < 2 ^ (1 + 7 * j) → vputM (vput j n).length n = vput j n := by
  induction j with
  | zero =>
    intro n hn
    simp at hn
    simp only [vput, List.length_cons, List.length_nil, vputM]
    rw [Nat.mod_eq_of_lt (by omega)]
  | succ j ih =>
    intro n hn
    rw [pow_step] at hn
    by_cases h : n < 128
    · simp only [vput]
      rw [if_pos h]
      simp only [List.length_cons, List.length_nil, vputM]
      rw [Nat.mod_eq_of_lt h]
    · have hl := vput_len_pos j (n / 128)
      obtain ⟨m, hm⟩ : ∃ m, (vput j (n / 128)).length = m + 1 := ⟨(vput j (n / 128)).length - 1, by omega⟩
      have hi := ih (n / 128) (by omega)
      simp only [vput]
      rw [if_neg h]
      simp only [List.length_cons]
      rw [hm] at hi ⊢
      simp only [vputM]
      rw [hi]

/-! ### bits -/
theorem andNot128 (c : Int) (h0 : 0 ≤ c) (h1 : c ≤ 255) : Go.bits .andNot .u8 c 128 = c % 128 := by
  have : ∀ x : Fin 256, Go.bits .andNot .u8 ((x.val : Nat) : Int) 128 = ((x.val : Nat) : Int) % 128 := by decide +kernel
  have h := this ⟨c.toNat, by omega⟩
  simp only at h
  rwa [Int.toNat_of_nonneg h0] at h
theorem or128 (c : Int) (h0 : 0 ≤ c) (h1 : c < 128) : Go.bits .or .u8 c 128 = c + 128 := by
  have : ∀ x : Fin 128, Go.bits .or .u8 ((x.val : Nat) : Int) 128 = ((x.val : Nat) : Int) + 128 := by decide +kernel
  have h := this ⟨c.toNat, by omega⟩
  simp only at h
  rwa [Int.toNat_of_nonneg h0] at h
/-- x | y << s where x ends below s. -/
theorem or_join (x y s : Nat) (hx : x < 2 ^ s) (h : x + y * 2 ^ s < 18446744073709551616) : Go.bits .or .u64 (x : Int) ((y * 2 ^ s : Nat) : Int) = ((x + y * 2 ^ s : Nat) : Int) := by
  rw [u64_or_nat x (y * 2 ^ s) (by omega) (by omega), Nat.or_comm, nat_join s (y * 2 ^ s) x (Nat.mul_mod_left ..) hx, Nat.add_comm]
end Go.Proofs.Ytgdfhpknhcjipaa.VT
