/- VTx: VT, Va, Vb, Vc in one text. -/
import Derived.Laws.BitsAllLaws
import Derived.RowKit
import Derived.Test.YtglelcgllodhoaaSXc
import Derived.Test.YtglelcgllodhoaaProg
namespace Go.Proofs.Ytglelcgllodhoaa.VT
open Go.RowKit

/-- The digits of n, at most j + 1 of them. -/
def vput : Nat → Nat → List Int
  | 0, n => [(n : Int)]
  | j + 1, n => if n < 128 then [(n : Int)] else (((n % 128 + 128 : Nat) : Int)) :: vput j (n / 128)

/-- What the bytes from digit k on decode to: the number, the count of digits read so far, the error. -/
def vdec : Nat → List Int → Int × Int × Int
  | _, [] => (0, 0, 1)
  | k, c :: r =>
    if (k = 9 ∧ c > 1) ∨ (k > 0 ∧ c = 0) then (0, 0, 3)
    else if c < 128 then (c, (k : Int) + 1, 0)
    else if (vdec (k + 1) r).2.2 = 0 then (c - 128 + 128 * (vdec (k + 1) r).1, (vdec (k + 1) r).2.1, 0)
    else (0, 0, (vdec (k + 1) r).2.2)

theorem vput_ne (j n : Nat) : vput j n ≠ [] := by
  cases j with
  | zero => simp [vput]
  | succ j => unfold vput; split <;> simp
theorem vput_len_pos (j n : Nat) : 0 < (vput j n).length := List.length_pos_iff.2 (vput_ne j n)
theorem vput_len_le (j n : Nat) : (vput j n).length ≤ j + 1 := by
  induction j generalizing n with
  | zero => simp [vput]
  | succ j ih =>
    unfold vput
    split
    · simp
    · have := ih (n / 128)
      simp only [List.length_cons]
      omega
theorem vput_byte (j : Nat) : ∀ n : Nat, n < 2 ^ (1 + 7 * j) → ∀ x ∈ vput j n, 0 ≤ x ∧ x ≤ 255 := by
  induction j with
  | zero => intro n hn x hx; simp [vput] at hx hn; omega
  | succ j ih =>
    intro n hn x hx
    unfold vput at hx
    split at hx
    · simp at hx; omega
    · simp only [List.mem_cons] at hx
      rcases hx with rfl | hx
      · omega
      · refine ih (n / 128) ?_ x hx
        have : 2 ^ (1 + 7 * (j + 1)) = 128 * 2 ^ (1 + 7 * j) := by rw [show 1 + 7 * (j + 1) = 7 + (1 + 7 * j) by omega, Nat.pow_add]
        omega

theorem pow_step (j : Nat) : 2 ^ (1 + 7 * (j + 1)) = 128 * 2 ^ (1 + 7 * j) := by
  rw [show 1 + 7 * (j + 1) = 7 + (1 + 7 * j) by omega, Nat.pow_add]

/-- Whatever the bytes are: an error, or a number whose digits they begin with. -/
theorem vdec_spec (l : List Int) : ∀ k : Nat, k ≤ 9 → (∀ x ∈ l, 0 ≤ x ∧ x ≤ 255) →
    (∃ e : Int, (e = 1 ∨ e = 3) ∧ vdec k l = (0, 0, e)) ∨
    (∃ n m : Nat, vdec k l = ((n : Int), ((k + m : Nat) : Int), 0) ∧ n < 2 ^ (1 + 7 * (9 - k)) ∧ (k > 0 → 0 < n) ∧ 0 < m ∧ m ≤ l.length ∧ k + m ≤ 10 ∧ l.take m = vput (9 - k) n) := by
  induction l with
  | nil => intro k _ _; exact .inl ⟨1, .inl rfl, rfl⟩
  | cons c r ih =>
    intro k hk hb
    have hc := hb c (by simp)
    have hr : ∀ x ∈ r, 0 ≤ x ∧ x ≤ 255 := fun x hx => hb x (by simp [hx])
    by_cases h1 : (k = 9 ∧ c > 1) ∨ (k > 0 ∧ c = 0)
    · exact .inl ⟨3, .inr rfl, by rw [vdec, if_pos h1]⟩
    · by_cases h2 : c < 128
      · obtain ⟨n, rfl⟩ := Int.eq_ofNat_of_zero_le hc.1
        refine .inr ⟨n, 1, by rw [vdec, if_neg h1, if_pos h2]; push_cast; rfl, ?_, by omega, by omega, by simp, by omega, ?_⟩
        · by_cases h9 : k = 9
          · subst h9; simp; omega
          · obtain ⟨j, hj⟩ : ∃ j, 9 - k = j + 1 := ⟨8 - k, by omega⟩
            rw [hj, pow_step]
            have : 0 < 2 ^ (1 + 7 * j) := Nat.pow_pos (by decide)
            omega
        · cases 9 - k with
          | zero => simp [vput]
          | succ j => simp only [vput, List.take_succ_cons, List.take_zero]; rw [if_pos (by omega)]
      · have hk9 : k ≠ 9 := by omega
        obtain ⟨j, hj⟩ : ∃ j, 9 - k = j + 1 := ⟨8 - k, by omega⟩
        have hj' : 9 - (k + 1) = j := by omega
        rcases ih (k + 1) (by omega) hr with ⟨e, he, hd⟩ | ⟨n, m, hd, hn, hp, hm, hml, hkm, ht⟩
        · refine .inl ⟨e, he, ?_⟩
          rw [vdec, if_neg h1, if_neg h2, hd]
          simp only
          rw [if_neg (by omega)]
        · obtain ⟨d, rfl⟩ := Int.eq_ofNat_of_zero_le hc.1
          refine .inr ⟨d - 128 + 128 * n, m + 1, ?_, ?_, by omega, by omega, by simpa using hml, by omega, ?_⟩
          · rw [vdec, if_neg h1, if_neg h2, hd]
            simp only [if_true]
            refine Prod.ext ?_ (Prod.ext ?_ rfl)
            · simp only; omega
            · simp only; omega
          · rw [hj, pow_step]; rw [hj'] at hn; omega
          · rw [hj, vput, if_neg (by omega), List.take_succ_cons, ht, hj']
            congr 1
            · omega
            · congr 1; omega

theorem vdec_vput (j : Nat) : ∀ (k n : Nat) (rest : List Int), k + j = 9 → n < 2 ^ (1 + 7 * j) → (k > 0 → 0 < n) →
    vdec k (vput j n ++ rest) = ((n : Int), ((k + (vput j n).length : Nat) : Int), 0) := by
  induction j with
  | zero =>
    intro k n rest hk hn hp
    simp at hn
    simp only [vput, List.cons_append, List.nil_append, vdec, List.length_cons, List.length_nil]
    rw [if_neg (by omega), if_pos (by omega)]
    push_cast; rfl
  | succ j ih =>
    intro k n rest hk hn hp
    by_cases h : n < 128
    · simp only [vput]
      rw [if_pos h]
      simp only [List.cons_append, List.nil_append, vdec, List.length_cons, List.length_nil]
      rw [if_neg (by omega), if_pos (by omega)]
      push_cast; rfl
    · rw [pow_step] at hn
      simp only [vput]
      rw [if_neg h]
      simp only [List.cons_append, vdec, List.length_cons]
      rw [if_neg (by omega), if_neg (by omega), ih (k + 1) (n / 128) rest (by omega) (by omega) (by omega)]
      simp only [if_true]
      refine Prod.ext ?_ (Prod.ext ?_ rfl)
      · simp only; omega
      · simp only; omega

/-- The digits of a number of 64 bits are decoded, whatever follows. -/
theorem vdec_put (n : Nat) (h : n < 18446744073709551616) (rest : List Int) : vdec 0 (vput 9 n ++ rest) = ((n : Int), ((vput 9 n).length : Int), 0) := by
  have := vdec_vput 9 0 n rest rfl (by simpa using h) (by omega)
  simpa using this

theorem vput_inj {n m : Nat} (hn : n < 18446744073709551616) (hm : m < 18446744073709551616) (h : vput 9 n = vput 9 m) : n = m := by
  have h1 := vdec_put n hn []
  have h2 := vdec_put m hm []
  rw [h, h2] at h1
  have := congrArg Prod.fst h1
  simp only at this
  omega

/-- A proper prefix lacks bytes. -/
theorem vdec_prefix (j : Nat) : ∀ (k n m : Nat), k + j = 9 → m < (vput j n).length → vdec k ((vput j n).take m) = (0, 0, 1) := by
  induction j with
  | zero =>
    intro k n m hk hm
    simp [vput] at hm
    subst hm
    rfl
  | succ j ih =>
    intro k n m hk hm
    cases m with
    | zero => rfl
    | succ m =>
      by_cases h : n < 128
      · simp only [vput] at hm
        rw [if_pos h] at hm
        simp at hm
      · simp only [vput] at hm ⊢
        rw [if_neg h] at hm ⊢
        simp only [List.length_cons] at hm
        simp only [List.take_succ_cons, vdec]
        rw [if_neg (by omega), if_neg (by omega), ih (k + 1) (n / 128) m (by omega) (by omega)]
        simp

/-- The digits with a digit 0 more. -/
def vlong : Nat → Nat → List Int
  | 0, n => [((n + 128 : Nat) : Int), 0]
  | j + 1, n => if n < 128 then [((n + 128 : Nat) : Int), 0] else (((n % 128 + 128 : Nat) : Int)) :: vlong j (n / 128)
theorem vdec_long (j : Nat) : ∀ (k n : Nat), k + j = 9 → n < 2 ^ (1 + 7 * j) → vdec k (vlong j n) = (0, 0, 3) := by
  induction j with
  | zero =>
    intro k n hk hn
    simp only [vlong, vdec]
    rw [if_pos (by omega)]
  | succ j ih =>
    intro k n hk hn
    rw [pow_step] at hn
    by_cases h : n < 128
    · simp only [vlong]
      rw [if_pos h]
      simp only [vdec]
      rw [if_neg (by omega), if_neg (by omega)]
      simp
    · simp only [vlong]
      rw [if_neg h]
      simp only [vdec]
      rw [if_neg (by omega), if_neg (by omega), ih (k + 1) (n / 128) (by omega) (by omega)]
      simp
/-- The last digit, where 128 is added. -/
theorem vlong_set (j : Nat) : ∀ n : Nat, n < 2 ^ (1 + 7 * j) → (vput j n).set ((vput j n).length - 1) (((vput j n).getD ((vput j n).length - 1) 0 + 128) % 256) ++ [0] = vlong j n := by
  induction j with
  | zero =>
    intro n hn
    simp at hn
    simp [vput, vlong]
    omega
  | succ j ih =>
    intro n hn
    rw [pow_step] at hn
    by_cases h : n < 128
    · simp only [vput, vlong]
      rw [if_pos h, if_pos h]
      simp
      omega
    · have hl := vput_len_pos j (n / 128)
      obtain ⟨m, hm⟩ : ∃ m, (vput j (n / 128)).length = m + 1 := ⟨(vput j (n / 128)).length - 1, by omega⟩
      have hi := ih (n / 128) (by omega)
      rw [hm] at hi
      simp only [vput, vlong]
      rw [if_neg h, if_neg h]
      simp only [List.length_cons, hm, Nat.add_sub_cancel, List.set_cons_succ, List.getD_cons_succ, List.cons_append]
      simp only [Nat.add_sub_cancel] at hi
      rw [hi]

/-! ### the length -/
/-- b is the number of bits of n. -/
def IsLen (n b : Nat) : Prop := (n = 0 ∧ b = 0) ∨ (0 < b ∧ 2 ^ (b - 1) ≤ n ∧ n < 2 ^ b)
theorem IsLen.shift {x s b : Nat} (h : IsLen (x / 2 ^ s) b) (hx : 2 ^ s ≤ x) : IsLen x (b + s) := by
  have hp : 0 < 2 ^ s := Nat.pow_pos (by decide)
  rcases h with ⟨h0, _⟩ | ⟨hb, h1, h2⟩
  · have := Nat.div_eq_zero_iff.1 h0
    omega
  · refine .inr ⟨by omega, ?_, ?_⟩
    · rw [show b + s - 1 = (b - 1) + s by omega, Nat.pow_add]
      exact (Nat.le_div_iff_mul_le hp).1 h1
    · rw [Nat.pow_add]
      exact (Nat.div_lt_iff_lt_mul hp).1 h2
theorem IsLen.small {n b : Nat} (h : IsLen n b) (s : Nat) (hn : n < 2 ^ s) : b ≤ s := by
  rcases h with ⟨_, h0⟩ | ⟨hb, h1, h2⟩
  · omega
  · rcases Nat.lt_or_ge s b with hlt | hge
    · have := Nat.pow_le_pow_right (n := 2) (by decide) (show s ≤ b - 1 by omega)
      omega
    · exact hge
theorem IsLen.large {n b : Nat} (h : IsLen n b) (s : Nat) (hn : 2 ^ s ≤ n) : s < b := by
  have hp : 0 < 2 ^ s := Nat.pow_pos (by decide)
  rcases h with ⟨h0, _⟩ | ⟨hb, h1, h2⟩
  · omega
  · rcases Nat.lt_or_ge s b with hlt | hge
    · exact hlt
    · have := Nat.pow_le_pow_right (n := 2) (by decide) hge
      omega
theorem IsLen.down {x s b : Nat} (h : IsLen x b) (hx : 2 ^ s ≤ x) : IsLen (x / 2 ^ s) (b - s) := by
  have hp : 0 < 2 ^ s := Nat.pow_pos (by decide)
  have hs := h.large s hx
  rcases h with ⟨h0, _⟩ | ⟨hb, h1, h2⟩
  · omega
  · refine .inr ⟨by omega, ?_, ?_⟩
    · rw [Nat.le_div_iff_mul_le hp, ← Nat.pow_add, show b - s - 1 + s = b - 1 by omega]; exact h1
    · rw [Nat.div_lt_iff_lt_mul hp, ← Nat.pow_add, show b - s + s = b by omega]; exact h2
theorem vput_len (j : Nat) : ∀ n b : Nat, n < 2 ^ (1 + 7 * j) → IsLen n b → (vput j n).length = max 1 ((b + 6) / 7) := by
  induction j with
  | zero =>
    intro n b hn h
    have := h.small 1 (by simpa using hn)
    simp only [vput, List.length_cons, List.length_nil]
    omega
  | succ j ih =>
    intro n b hn h
    rw [pow_step] at hn
    by_cases h' : n < 128
    · have := h.small 7 (by simpa using h')
      simp only [vput]
      rw [if_pos h']
      simp only [List.length_cons, List.length_nil]
      omega
    · have hb := h.large 7 (by simp; omega)
      have hd := h.down (s := 7) (by simp; omega)
      have hi := ih (n / 128) (b - 7) (by omega) hd
      simp only [vput]
      rw [if_neg h']
      simp only [List.length_cons, hi]
      omega

/-! ### m digits, of which all but the last bear the mark -/
def vputM : Nat → Nat → List Int
  | 0, _ => []
  | 1, x => [((x % 128 : Nat) : Int)]
  | m + 2, x => ((x % 128 + 128 : Nat) : Int) :: vputM (m + 1) (x / 128)
theorem vputM_vput (j : Nat) : ∀ n : Nat, n < 2 ^ (1 + 7 * j) → vputM (vput j n).length n = vput j n := by
  induction j with
  | zero =>
    intro n hn
    simp at hn
    simp only [vput, List.length_cons, List.length_nil, vputM]
    rw [Nat.mod_eq_of_lt (by omega)]
  | succ j ih =>
    intro n hn
    rw [pow_step] at hn
    by_cases h : n < 128
    · simp only [vput]
      rw [if_pos h]
      simp only [List.length_cons, List.length_nil, vputM]
      rw [Nat.mod_eq_of_lt h]
    · have hl := vput_len_pos j (n / 128)
      obtain ⟨m, hm⟩ : ∃ m, (vput j (n / 128)).length = m + 1 := ⟨(vput j (n / 128)).length - 1, by omega⟩
      have hi := ih (n / 128) (by omega)
      simp only [vput]
      rw [if_neg h]
      simp only [List.length_cons]
      rw [hm] at hi ⊢
      simp only [vputM]
      rw [hi]

/-! ### bits -/
theorem andNot128 (c : Int) (h0 : 0 ≤ c) (h1 : c ≤ 255) : Go.bits .andNot .u8 c 128 = c % 128 := by
  have : ∀ x : Fin 256, Go.bits .andNot .u8 ((x.val : Nat) : Int) 128 = ((x.val : Nat) : Int) % 128 := by decide +kernel
  have h := this ⟨c.toNat, by omega⟩
  simp only at h
  rwa [Int.toNat_of_nonneg h0] at h
theorem or128 (c : Int) (h0 : 0 ≤ c) (h1 : c < 128) : Go.bits .or .u8 c 128 = c + 128 := by
  have : ∀ x : Fin 128, Go.bits .or .u8 ((x.val : Nat) : Int) 128 = ((x.val : Nat) : Int) + 128 := by decide +kernel
  have h := this ⟨c.toNat, by omega⟩
  simp only at h
  rwa [Int.toNat_of_nonneg h0] at h
/-- x | y << s where x ends below s. -/
theorem or_join (x y s : Nat) (hx : x < 2 ^ s) (h : x + y * 2 ^ s < 18446744073709551616) : Go.bits .or .u64 (x : Int) ((y * 2 ^ s : Nat) : Int) = ((x + y * 2 ^ s : Nat) : Int) := by
  rw [u64_or_nat x (y * 2 ^ s) (by omega) (by omega), Nat.or_comm, nat_join s (y * 2 ^ s) x (Nat.mul_mod_left ..) hx, Nat.add_comm]
end Go.Proofs.Ytglelcgllodhoaa.VT

namespace Go.Proofs.Ytglelcgllodhoaa.Cu
open Go Go.SX Go.Proofs.Ytglelcgllodhoaa.VT
set_option maxRecDepth 100000
set_option linter.unusedVariables false

theorem follows : Try.prog.follows .mixedOrders = true := by kernel_rfl
theorem i64_in {n : Int} (h1 : -9223372036854775808 ≤ n) (h2 : n ≤ 9223372036854775807) : IntKind.i64.wrap n = n := by rw [IntKind.wrap_i64]; omega
theorem u64_in {n : Int} (h1 : 0 ≤ n) (h2 : n < 18446744073709551616) : IntKind.u64.wrap n = n := by rw [IntKind.wrap_u64]; omega

theorem svi {k : IntKind} {a b : Int} (h : a = b) : SV.v (.int k a) = .v (.int k b) := by rw [h]
def byts (l : List Int) : List Value := l.map (.int .u8)
def isB (l : List Int) : Prop := ∀ x ∈ l, 0 ≤ x ∧ x ≤ 255
theorem byts_length (l : List Int) : (byts l).length = l.length := by simp [byts]
theorem byts_one (l : List Int) : ∀ v ∈ byts l, v.oneCell' = true := by simp [byts, Value.oneCell']
/-- A slice of bytes that nobody changes. -/
abbrev SlB (G : Gh) (A : Option Addr) (c : Nat) (l : List Int) : Prop := Sl G A l.length c 1 (byts l)
theorem getD_isB {l : List Int} (hb : isB l) {i : Nat} (h : i < l.length) : 0 ≤ l.getD i 0 ∧ l.getD i 0 ≤ 255 := by
  rw [List.getD_eq_getElem?_getD, List.getElem?_eq_getElem h]; exact hb _ (List.getElem_mem h)
theorem el1 {G : Gh} {ad : Addr} {l : List Int} {j : Nat} (h : Gat G ad (((byts l).drop (j * 1)).take 1)) (hj : j < l.length) : Gcell G ad = some (.int .u8 (l.getD j 0)) := by
  have := h 0 (.int .u8 (l.getD j 0)) (by
    rw [List.getElem?_take, if_pos (by omega), List.getElem?_drop]
    simp [byts, List.getElem?_eq_getElem hj])
  exact this

theorem pow7 (i : Nat) (h : i ≤ 9) : 2 ^ (7 * i) * 2 ≤ 18446744073709551616 ∧ 2 ^ (7 * i) ≤ 9223372036854775808 := by
  have := Nat.pow_le_pow_right (n := 2) (by decide) (show 7 * i ≤ 63 by omega)
  omega
theorem pow7s (i : Nat) : 2 ^ (7 * (i + 1)) = 2 ^ (7 * i) * 128 := by rw [show 7 * (i + 1) = 7 * i + 7 by omega, Nat.pow_add]
theorem pow7t (i : Nat) (h : i ≤ 8) : 2 ^ (7 * i) * 256 ≤ 18446744073709551616 := by
  have := Nat.pow_le_pow_right (n := 2) (by decide) (show 7 * i ≤ 56 by omega)
  omega
/-- v, then what is decoded from digit i on. -/
def from_ (v i : Nat) (x : Int × Int × Int) : Int × Int × Int := if x.2.2 = 0 then ((v : Int) + x.1 * ((2 ^ (7 * i) : Nat) : Int), x.2.1, 0) else (0, 0, x.2.2)
theorem from_err (v i : Nat) (e : Int) (h : e ≠ 0) : from_ v i (0, 0, e) = (0, 0, e) := by unfold from_; rw [if_neg h]
theorem from_cons (v i : Nat) (d : Int) (x : Int × Int × Int) (hd : (v : Int) + d * ((2 ^ (7 * i) : Nat) : Int) = ((v + d.toNat * 2 ^ (7 * i) : Nat) : Int)) :
    from_ (v + d.toNat * 2 ^ (7 * i)) (i + 1) x = from_ v i (if x.2.2 = 0 then (d + 128 * x.1, x.2.1, 0) else (0, 0, x.2.2)) := by
  unfold from_
  by_cases h : x.2.2 = 0
  · simp only [if_pos h, if_true]
    refine Prod.ext ?_ rfl
    simp only
    rw [← hd, pow7s, Int.natCast_mul]
    generalize ((2 ^ (7 * i) : Nat) : Int) = p
    rw [Int.add_mul, Int.mul_assoc, ← Int.add_assoc, ← Int.mul_assoc x.1 p, Int.mul_comm (x.1 * p) _]; rfl
  · simp only [if_neg h]
theorem drop_at {xs : List Int} {i : Nat} (h : i < xs.length) : xs.drop i = xs.getD i 0 :: xs.drop (i + 1) := by
  rw [List.drop_eq_getElem_cons h]
  simp [List.getD_eq_getElem?_getD, List.getElem?_eq_getElem h]

theorem vdec_err {l : List Int} (hb : isB l) : (vdec 0 l).2.2 ≠ 0 → (vdec 0 l).1 = 0 ∧ (vdec 0 l).2.1 = 0 := by
  rcases vdec_spec l 0 (by omega) hb with ⟨e, _, h⟩ | ⟨n, m, h, _⟩ <;> rw [h] <;> simp
theorem from_zero (x : Int × Int × Int) (h : x.2.2 ≠ 0 → x.1 = 0 ∧ x.2.1 = 0) : from_ 0 0 x = x := by
  unfold from_
  obtain ⟨a, b, c⟩ := x
  simp only at h ⊢
  by_cases hc : c = 0
  · subst hc; simp
  · rw [if_neg hc, (h hc).1, (h hc).2]
theorem vs_bad {v i : Nat} {c : Int} {r : List Int} (h : ((i : Int) = 9 ∧ c > 1) ∨ ((i : Int) > 0 ∧ c = 0)) : from_ v i (vdec i (c :: r)) = (0, 0, 3) := by
  unfold vdec; rw [if_pos (by omega), from_err v i 3 (by decide)]
theorem vs_last {v i : Nat} {c : Int} {r : List Int} (h : ¬ (((i : Int) = 9 ∧ c > 1) ∨ ((i : Int) > 0 ∧ c = 0))) (h0 : 0 ≤ c) (hc : c < 128) : from_ v i (vdec i (c :: r)) = (((v + (c % 128).toNat * 2 ^ (7 * i) : Nat) : Int), (i : Int) + 1, 0) := by
  unfold vdec; rw [if_neg (by omega), if_pos hc]
  unfold from_
  simp only [if_true]
  push_cast
  rw [Int.toNat_of_nonneg (by omega), Int.emod_eq_of_lt h0 hc]
theorem vs_more {v i : Nat} {c : Int} {r : List Int} (h : ¬ (((i : Int) = 9 ∧ c > 1) ∨ ((i : Int) > 0 ∧ c = 0))) (h1 : c ≤ 255) (hc : ¬ c < 128) : from_ v i (vdec i (c :: r)) = from_ (v + (c % 128).toNat * 2 ^ (7 * i)) (i + 1) (vdec (i + 1) r) := by
  rw [from_cons v i (c % 128) _ (by push_cast; rw [Int.toNat_of_nonneg (by omega)])]
  conv => lhs; unfold vdec
  rw [if_neg (by omega), if_neg hc, show c % 128 = c - 128 from by omega]
theorem or_step {v i : Nat} {c : Int} (h1 : i ≤ 9) (hv : v < 2 ^ (7 * i)) (h : ¬ (((i : Int) = 9 ∧ c > 1) ∨ ((i : Int) > 0 ∧ c = 0))) (h0 : 0 ≤ c) (hc : c ≤ 255) :
    bits .or .u64 (v : Int) (IntKind.u64.wrap (IntKind.u64.wrap (bits .andNot .u8 c 128) * 2 ^ (min (((7 * i : Nat) : Int)).toNat IntKind.u64.bits))) = ((v + (c % 128).toNat * 2 ^ (7 * i) : Nat) : Int) ∧
      v + (c % 128).toNat * 2 ^ (7 * i) < 2 ^ (7 * (i + 1)) ∧ v + (c % 128).toNat * 2 ^ (7 * i) < 18446744073709551616 := by
  have hp := pow7 i h1
  have hle : (c % 128).toNat * 2 ^ (7 * i) ≤ 127 * 2 ^ (7 * i) := Nat.mul_le_mul_right _ (by omega)
  have hb : v + (c % 128).toNat * 2 ^ (7 * i) < 18446744073709551616 := by
    by_cases h9 : i = 9
    · have : (c % 128).toNat ≤ 1 := by omega
      have := Nat.mul_le_mul_right (2 ^ (7 * i)) this
      omega
    · have := pow7t i (by omega); omega
  refine ⟨?_, by rw [pow7s]; omega, hb⟩
  rw [andNot128 c h0 hc, show IntKind.u64.wrap (c % 128) = c % 128 from u64_in (by omega) (by omega)]
  rw [show min ((((7 * i : Nat) : Int)).toNat) IntKind.u64.bits = 7 * i from by simp [IntKind.bits]; omega]
  have e : (c % 128) * 2 ^ (7 * i) = (((c % 128).toNat * 2 ^ (7 * i) : Nat) : Int) := by
    push_cast
    rw [Int.toNat_of_nonneg (by omega)]
  rw [e, u64_in (by omega) (by omega), or_join v _ (7 * i) hv hb]

def InV (bs : List Int) (i v : Nat) : Prop := v < 2 ^ (7 * i) ∧ from_ v i (vdec i (bs.drop i)) = vdec 0 bs
def getR (bs : List Int) : SV := .tup [.v (.int .u64 (vdec 0 bs).1), .v (.int .i64 (vdec 0 bs).2.1), .v (.int .i64 (vdec 0 bs).2.2)]
theorem getR_of {bs : List Int} {a b c : Int} (h : (a, b, c) = vdec 0 bs) : SV.tup [.v (.int .u64 a), .v (.int .i64 b), .v (.int .i64 c)] = getR bs := by unfold getR; rw [← h]

end Go.Proofs.Ytglelcgllodhoaa.Cu

namespace Go.Proofs.Ytglelcgllodhoaa.Cu
open Go Go.SX Go.Proofs.Ytglelcgllodhoaa.VT
set_option maxRecDepth 100000
set_option linter.unusedVariables false

def tbl : List UInt8 := [0, 1, 2, 2] ++ List.replicate 4 3 ++ List.replicate 8 4 ++ List.replicate 16 5 ++ List.replicate 32 6 ++ List.replicate 64 7 ++ List.replicate 128 8
instance (n b : Nat) : Decidable (IsLen n b) := by unfold IsLen; infer_instance
theorem tbl_all : ∀ y : Fin 256, IsLen y.val (tbl.getD y.val 0).toNat ∧ (tbl.getD y.val 0).toNat ≤ 8 := by decide +kernel
theorem tbl_is {b : ByteArray} (hb : b.data.toList = tbl) (y : Int) (h0 : 0 ≤ y) (h1 : y < 256) : ∃ u, b[y.toNat]? = some u ∧ IsLen y.toNat u.toNat ∧ u.toNat ≤ 8 := by
  have hl : b.size = 256 := by rw [← ByteArray.size_data, ← Array.length_toList, hb]; decide +kernel
  have hi : y.toNat < b.size := by omega
  have h := tbl_all ⟨y.toNat, by omega⟩
  refine ⟨tbl.getD y.toNat 0, ?_, h⟩
  have e : b[y.toNat]'hi = tbl.getD y.toNat 0 := by
    have : b[y.toNat]'hi = b.data[y.toNat]'hi := rfl
    rw [this, ← Array.getElem_toList, List.getD_eq_getElem?_getD]
    simp only [hb]
    rw [List.getElem?_eq_getElem (by rw [← hb]; simpa using hi)]
    rfl
  rw [getElem?_pos b y.toNat hi, e]

theorem tbl_vc {b : ByteArray} {y : Int} {K : UInt8 → Prop} (hb : b.data.toList = tbl) (h0 : 0 ≤ y) (h1 : y < 256) (h : ∀ u : UInt8, IsLen y.toNat u.toNat → u.toNat ≤ 8 → K u) : 0 ≤ y ∧ ∃ u, b[y.toNat]? = some u ∧ K u := by
  obtain ⟨u, hu, hl, hle⟩ := tbl_is hb y h0 h1
  exact ⟨h0, u, hu, h u hl hle⟩
theorem len_fin {x : Nat} {y n : Int} {u : Nat} (s : Nat) (hl : IsLen y.toNat u) (hu : u ≤ 8) (hn : n = u + s) (hy : y.toNat = x / 2 ^ s) (hs : s = 0 ∨ 2 ^ s ≤ x) (h64 : s ≤ 56) :
    ∃ b : Nat, SV.v (.int .i64 n) = .v (.int .i64 b) ∧ IsLen x b ∧ b ≤ 64 := by
  refine ⟨u + s, by rw [hn]; simp, ?_, by omega⟩
  rw [hy] at hl
  rcases hs with rfl | hs
  · simpa using hl
  · exact hl.shift hs
/-- The length of a number's encoding. -/
def vlen (x : Nat) : Nat := (vput 9 x).length
/-! ### zigzag -/
def zig (n : Int) : Int := if n ≥ 0 then 2 * n else -2 * n - 1
def unzig (u : Int) : Int := if u % 2 = 0 then u / 2 else -(u / 2) - 1
theorem xor_ones (x : Nat) (h : x < 18446744073709551616) : x ^^^ 18446744073709551615 = 18446744073709551615 - x := by
  have e : (BitVec.ofNat 64 x ^^^ BitVec.allOnes 64).toNat = (~~~ BitVec.ofNat 64 x).toNat := by rw [BitVec.xor_allOnes]
  rw [BitVec.toNat_not, BitVec.toNat_xor, BitVec.toNat_ofNat, BitVec.toNat_allOnes, Nat.mod_eq_of_lt (by simpa using h)] at e
  simpa using e
theorem and_one (x : Nat) (h : x < 18446744073709551616) : Go.bits .and .u64 (x : Int) 1 = ((x % 2 : Nat) : Int) := by
  have e := u64_and_nat x 1 h (by decide)
  rw [Nat.and_one_is_mod] at e
  exact e
theorem xor_i64_zero (x : Int) (h0 : 0 ≤ x) (h1 : x ≤ 9223372036854775807) : Go.bits .xor .i64 x 0 = x := by
  unfold Go.bits
  have e : (BitVec.ofInt IntKind.i64.bits x ^^^ BitVec.ofInt IntKind.i64.bits 0) = BitVec.ofInt IntKind.i64.bits x := by
    rw [show BitVec.ofInt IntKind.i64.bits 0 = 0#_ from by rfl, BitVec.xor_zero]
  simp only [e]
  rw [BitVec.toNat_ofInt, IntKind.wrap_i64]
  simp only [IntKind.bits]
  omega
theorem xor_i64_ones (x : Int) (h0 : 0 ≤ x) (h1 : x ≤ 9223372036854775807) : Go.bits .xor .i64 x (-1) = -x - 1 := by
  unfold Go.bits
  have e : (BitVec.ofInt IntKind.i64.bits x ^^^ BitVec.ofInt IntKind.i64.bits (-1)) = ~~~ (BitVec.ofInt IntKind.i64.bits x) := by
    rw [show BitVec.ofInt IntKind.i64.bits (-1) = BitVec.allOnes _ from by rfl, BitVec.xor_allOnes]
  simp only [e]
  rw [BitVec.toNat_not, BitVec.toNat_ofInt, IntKind.wrap_i64]
  simp only [IntKind.bits]
  omega
theorem unzig_zig (n : Int) : unzig (zig n) = n := by unfold unzig zig; split <;> split <;> omega
theorem zig_unzig (u : Int) (h : 0 ≤ u) : zig (unzig u) = u := by unfold unzig zig; split <;> split <;> omega
theorem zig_range (n : Int) (h0 : -9223372036854775808 ≤ n) (h1 : n ≤ 9223372036854775807) : 0 ≤ zig n ∧ zig n < 18446744073709551616 := by unfold zig; split <;> omega
theorem unzig_range (u : Int) (h0 : 0 ≤ u) (h1 : u < 18446744073709551616) : -9223372036854775808 ≤ unzig u ∧ unzig u ≤ 9223372036854775807 := by unfold unzig; split <;> omega

/-! ### Put -/
def putB (x : Nat) : List Int := vput 9 x
/-- m digits, all with the mark. -/
def vputA : Nat → Nat → List Int
  | 0, _ => []
  | m + 1, x => ((x % 128 + 128 : Nat) : Int) :: vputA m (x / 128)
theorem vputA_length : ∀ m x, (vputA m x).length = m
  | 0, _ => rfl
  | m + 1, x => by simp [vputA, vputA_length m]
theorem vputA_M : ∀ m x, (vputA (m + 1) x).set m ((vputA (m + 1) x).getD m 0 % 128) = vputM (m + 1) x
  | 0, x => by simp [vputA, vputM]
  | m + 1, x => by
    have := vputA_M m (x / 128)
    rw [show vputA (m + 1 + 1) x = ((x % 128 + 128 : Nat) : Int) :: vputA (m + 1) (x / 128) from rfl, show vputM (m + 1 + 1) x = ((x % 128 + 128 : Nat) : Int) :: vputM (m + 1) (x / 128) from rfl, ← this]
    simp
theorem take_set_succ (xs : List Int) (i : Nat) (a : Int) (h : i < xs.length) : (xs.set i a).take (i + 1) = xs.take i ++ [a] := by
  rw [List.take_succ_eq_append_getElem (by rw [List.length_set]; exact h), List.getElem_set_self, List.take_set, List.set_eq_of_length_le (by rw [List.length_take]; omega)]
theorem byts_set (xs : List Int) (i : Nat) (a : Int) : (byts xs).set i (.int .u8 a) = byts (xs.set i a) := by simp [byts, List.map_set]
theorem byts_rep (n : Nat) : List.replicate n (Value.int .u8 0) = byts (List.replicate n 0) := by simp [byts]
theorem byts_get {xs : List Int} {i : Nat} (h : i < xs.length) : (byts xs)[i]? = some (.int .u8 (xs.getD i 0)) := by simp [byts, List.getElem?_eq_getElem h]
/-- The bytes so far: i digits are written. -/
def InP (n x : Nat) (i y : Nat) (xs : List Int) : Prop := xs.length = n ∧ xs.take i ++ vputA (n - i) y = vputA n x ∧ y < 18446744073709551616
theorem InP_step {n x i y : Nat} {xs : List Int} (h : InP n x i y xs) (hi : i < n) : InP n x (i + 1) (y / 128) (xs.set i ((y : Int) % 128 % 256 + 128)) := by
  obtain ⟨h1, h2, h3⟩ := h
  refine ⟨by simp [h1], ?_, by omega⟩
  rw [take_set_succ xs i _ (by omega), ← h2, show n - i = (n - (i + 1)) + 1 by omega]
  simp only [vputA, List.append_assoc, List.singleton_append]
  congr 2
  omega
theorem InP_last {x : Nat} {y : Nat} {xs : List Int} (hx : x < 18446744073709551616) (h : InP (vput 9 x).length x (vput 9 x).length y xs) : xs.set ((vput 9 x).length - 1) (xs.getD ((vput 9 x).length - 1) 0 % 128) = vput 9 x := by
  obtain ⟨h1, h2, _⟩ := h
  have hpos := vput_len_pos 9 x
  rw [Nat.sub_self, List.take_of_length_le (by omega)] at h2
  simp only [vputA, List.append_nil] at h2
  subst h2
  have hm := vputM_vput 9 x (by simpa using hx)
  obtain ⟨m, hl⟩ : ∃ m, (vput 9 x).length = m + 1 := ⟨(vput 9 x).length - 1, by omega⟩
  rw [hl] at hm ⊢
  rw [Nat.add_sub_cancel, vputA_M]
  exact hm
theorem InP_range {n x i y : Nat} {xs : List Int} (h : InP n x n y xs) (hi : i < n) : 0 ≤ xs.getD i 0 ∧ xs.getD i 0 ≤ 255 := by
  obtain ⟨h1, h2, _⟩ := h
  rw [Nat.sub_self, List.take_of_length_le (by omega)] at h2
  simp only [vputA, List.append_nil] at h2
  subst h2
  have key : ∀ (m y i : Nat), i < m → 0 ≤ (vputA m y).getD i 0 ∧ (vputA m y).getD i 0 ≤ 255 := by
    intro m
    induction m with
    | zero => intro y i hi; omega
    | succ m ih =>
      intro y i hi
      cases i with
      | zero => simp [vputA]; omega
      | succ i => simpa [vputA] using ih (y / 128) i (by omega)
  exact key n x i hi

end Go.Proofs.Ytglelcgllodhoaa.Cu

namespace Go.Proofs.Ytglelcgllodhoaa.Cu
open Go Go.SX Go.Proofs.Ytglelcgllodhoaa.VT
set_option maxRecDepth 100000
set_option linter.unusedVariables false

theorem from_last {v i : Nat} {c : Int} {r : List Int} (h : ¬ (((i : Int) = 9 ∧ c > 1) ∨ ((i : Int) > 0 ∧ c = 0))) (h0 : 0 ≤ c) (hc : c < 128) : from_ v i (vdec i (c :: r)) = ((v : Int) + c * ((2 ^ (7 * i) : Nat) : Int), (i : Int) + 1, 0) := by
  unfold vdec; rw [if_neg (by omega), if_pos hc]
  unfold from_
  simp only [if_true]
end Go.Proofs.Ytglelcgllodhoaa.Cu
