/- VTx: VT, Va, Vb, Vc, Cu1, Cu2, Cu3, Cu4, Cu5, Cu6, Cu7, CuP, Vd in one text. -/
import Derived.Laws.BitsAllLaws
import Derived.RowKit
import Derived.Test.YtchebkpcgglllaaGreatSXc
import Derived.Test.YtchebkpcgglllaaGreatProg
namespace Go.Proofs.YtchebkpcgglllaaGreat.VT
open Go.RowKit

/-- The digits of n, at most j + 1 of them. -/
def vput : Nat → Nat → List Int
  | 0, n => [(n : Int)]
  | j + 1, n => if n < 128 then [(n : Int)] else (((n % 128 + 128 : Nat) : Int)) :: vput j (n / 128)

/-- What the bytes from digit k on decode to: the number, the count of digits read so far, the error. -/
def vdec : Nat → List Int → Int × Int × Int
  | _, [] => (0, 0, 1)
  | k, c :: r =>
    if (k = 9 ∧ c > 1) ∨ (k > 0 ∧ c = 0) then (0, 0, 3)
    else if c < 128 then (c, (k : Int) + 1, 0)
    else if (vdec (k + 1) r).2.2 = 0 then (c - 128 + 128 * (vdec (k + 1) r).1, (vdec (k + 1) r).2.1, 0)
    else (0, 0, (vdec (k + 1) r).2.2)

theorem vput_ne (j n : Nat) : vput j n ≠ [] := by
  cases j with
  | zero => simp [vput]
  | succ j => unfold vput; split <;> simp
theorem vput_len_pos (j n : Nat) : 0 < (vput j n).length := List.length_pos_iff.2 (vput_ne j n)
theorem vput_len_le (j n : Nat) : (vput j n).length ≤ j + 1 := by
  induction j generalizing n with
  | zero => simp [vput]
  | succ j ih =>
    unfold vput
    split
    · simp
    · have := ih (n / 128)
      simp only [List.length_cons]
      omega
theorem vput_byte (j : Nat) : ∀ n : Nat, n < 2 ^ (1 + 7 * j) → ∀ x ∈ vput j n, 0 ≤ x ∧ x ≤ 255 := by
  induction j with
  | zero => intro n hn x hx; simp [vput] at hx hn; omega
  | succ j ih =>
    intro n hn x hx
    unfold vput at hx
    split at hx
    · simp at hx; omega
    · simp only [List.mem_cons] at hx
      rcases hx with rfl | hx
      · omega
      · refine ih (n / 128) ?_ x hx
        have : 2 ^ (1 + 7 * (j + 1)) = 128 * 2 ^ (1 + 7 * j) := by rw [show 1 + 7 * (j + 1) = 7 + (1 + 7 * j) by omega, Nat.pow_add]
        omega

theorem pow_step (j : Nat) : 2 ^ (1 + 7 * (j + 1)) = 128 * 2 ^ (1 + 7 * j) := by
  rw [show 1 + 7 * (j + 1) = 7 + (1 + 7 * j) by omega, Nat.pow_add]

/-- Whatever the bytes are: an error, or a number whose digits they begin with. -/
theorem vdec_spec (l : List Int) : ∀ k : Nat, k ≤ 9 → (∀ x ∈ l, 0 ≤ x ∧ x ≤ 255) →
    (∃ e : Int, (e = 1 ∨ e = 3) ∧ vdec k l = (0, 0, e)) ∨
    (∃ n m : Nat, vdec k l = ((n : Int), ((k + m : Nat) : Int), 0) ∧ n < 2 ^ (1 + 7 * (9 - k)) ∧ (k > 0 → 0 < n) ∧ 0 < m ∧ m ≤ l.length ∧ k + m ≤ 10 ∧ l.take m = vput (9 - k) n) := by
  induction l with
  | nil => intro k _ _; exact .inl ⟨1, .inl rfl, rfl⟩
  | cons c r ih =>
    intro k hk hb
    have hc := hb c (by simp)
    have hr : ∀ x ∈ r, 0 ≤ x ∧ x ≤ 255 := fun x hx => hb x (by simp [hx])
    by_cases h1 : (k = 9 ∧ c > 1) ∨ (k > 0 ∧ c = 0)
    · exact .inl ⟨3, .inr rfl, by rw [vdec, if_pos h1]⟩
    · by_cases h2 : c < 128
      · obtain ⟨n, rfl⟩ := Int.eq_ofNat_of_zero_le hc.1
        refine .inr ⟨n, 1, by rw [vdec, if_neg h1, if_pos h2]; push_cast; rfl, ?_, by omega, by omega, by simp, by omega, ?_⟩
        · by_cases h9 : k = 9
          · subst h9; simp; omega
          · obtain ⟨j, hj⟩ : ∃ j, 9 - k = j + 1 := ⟨8 - k, by omega⟩
            rw [hj, pow_step]
            have : 0 < 2 ^ (1 + 7 * j) := Nat.pow_pos (by decide)
            omega
        · cases 9 - k with
          | zero => simp [vput]
          | succ j => simp only [vput, List.take_succ_cons, List.take_zero]; rw [if_pos (by omega)]
      · have hk9 : k ≠ 9 := by omega
        obtain ⟨j, hj⟩ : ∃ j, 9 - k = j + 1 := ⟨8 - k, by omega⟩
        have hj' : 9 - (k + 1) = j := by omega
        rcases ih (k + 1) (by omega) hr with ⟨e, he, hd⟩ | ⟨n, m, hd, hn, hp, hm, hml, hkm, ht⟩
        · refine .inl ⟨e, he, ?_⟩
          rw [vdec, if_neg h1, if_neg h2, hd]
          simp only
          rw [if_neg (by omega)]
        · obtain ⟨d, rfl⟩ := Int.eq_ofNat_of_zero_le hc.1
          refine .inr ⟨d - 128 + 128 * n, m + 1, ?_, ?_, by omega, by omega, by simpa using hml, by omega, ?_⟩
          · rw [vdec, if_neg h1, if_neg h2, hd]
            simp only [if_true]
            refine Prod.ext ?_ (Prod.ext ?_ rfl)
            · simp only; omega
            · simp only; omega
          · rw [hj, pow_step]; rw [hj'] at hn; omega
          · rw [hj, vput, if_neg (by omega), List.take_succ_cons, ht, hj']
            congr 1
            · omega
            · congr 1; omega

theorem vdec_vput (j : Nat) : ∀ (k n : Nat) (rest : List Int), k + j = 9 → n < 2 ^ (1 + 7 * j) → (k > 0 → 0 < n) →
    vdec k (vput j n ++ rest) = ((n : Int), ((k + (vput j n).length : Nat) : Int), 0) := by
  induction j with
  | zero =>
    intro k n rest hk hn hp
    simp at hn
    simp only [vput, List.cons_append, List.nil_append, vdec, List.length_cons, List.length_nil]
    rw [if_neg (by omega), if_pos (by omega)]
    push_cast; rfl
  | succ j ih =>
    intro k n rest hk hn hp
    by_cases h : n < 128
    · simp only [vput]
      rw [if_pos h]
      simp only [List.cons_append, List.nil_append, vdec, List.length_cons, List.length_nil]
      rw [if_neg (by omega), if_pos (by omega)]
      push_cast; rfl
    · rw [pow_step] at hn
      simp only [vput]
      rw [if_neg h]
      simp only [List.cons_append, vdec, List.length_cons]
      rw [if_neg (by omega), if_neg (by omega), ih (k + 1) (n / 128) rest (by omega) (by omega) (by omega)]
      simp only [if_true]
      refine Prod.ext ?_ (Prod.ext ?_ rfl)
      · simp only; omega
      · simp only; omega

/-- The digits of a number of 64 bits are decoded, whatever follows. -/
theorem vdec_put (n : Nat) (h : n < 18446744073709551616) (rest : List Int) : vdec 0 (vput 9 n ++ rest) = ((n : Int), ((vput 9 n).length : Int), 0) := by
  have := vdec_vput 9 0 n rest rfl (by simpa using h) (by omega)
  simpa using this

/-- A proper prefix lacks bytes. -/
theorem vdec_prefix (j : Nat) : ∀ (k n m : Nat), k + j = 9 → m < (vput j n).length → vdec k ((vput j n).take m) = (0, 0, 1) := by
  induction j with
  | zero =>
    intro k n m hk hm
    simp [vput] at hm
    subst hm
    rfl
  | succ j ih =>
    intro k n m hk hm
    cases m with
    | zero => rfl
    | succ m =>
      by_cases h : n < 128
      · simp only [vput] at hm
        rw [if_pos h] at hm
        simp at hm
      · simp only [vput] at hm ⊢
        rw [if_neg h] at hm ⊢
        simp only [List.length_cons] at hm
        simp only [List.take_succ_cons, vdec]
        rw [if_neg (by omega), if_neg (by omega), ih (k + 1) (n / 128) m (by omega) (by omega)]
        simp

/-! ### the length -/
/-- b is the number of bits of n. -/
def IsLen (n b : Nat) : Prop := (n = 0 ∧ b = 0) ∨ (0 < b ∧ 2 ^ (b - 1) ≤ n ∧ n < 2 ^ b)
theorem IsLen.shift {x s b : Nat} (h : IsLen (x / 2 ^ s) b) (hx : 2 ^ s ≤ x) : IsLen x (b + s) := by
  have hp : 0 < 2 ^ s := Nat.pow_pos (by decide)
  rcases h with ⟨h0, _⟩ | ⟨hb, h1, h2⟩
  · have := Nat.div_eq_zero_iff.1 h0
    omega
  · refine .inr ⟨by omega, ?_, ?_⟩
    · rw [show b + s - 1 = (b - 1) + s by omega, Nat.pow_add]
      exact (Nat.le_div_iff_mul_le hp).1 h1
    · rw [Nat.pow_add]
      exact (Nat.div_lt_iff_lt_mul hp).1 h2
theorem IsLen.small {n b : Nat} (h : IsLen n b) (s : Nat) (hn : n < 2 ^ s) : b ≤ s := by
  rcases h with ⟨_, h0⟩ | ⟨hb, h1, h2⟩
  · omega
  · rcases Nat.lt_or_ge s b with hlt | hge
    · have := Nat.pow_le_pow_right (n := 2) (by decide) (show s ≤ b - 1 by omega)
      omega
    · exact hge
theorem IsLen.large {n b : Nat} (h : IsLen n b) (s : Nat) (hn : 2 ^ s ≤ n) : s < b := by
  have hp : 0 < 2 ^ s := Nat.pow_pos (by decide)
  rcases h with ⟨h0, _⟩ | ⟨hb, h1, h2⟩
  · omega
  · rcases Nat.lt_or_ge s b with hlt | hge
    · exact hlt
    · have := Nat.pow_le_pow_right (n := 2) (by decide) hge
      omega
theorem IsLen.down {x s b : Nat} (h : IsLen x b) (hx : 2 ^ s ≤ x) : IsLen (x / 2 ^ s) (b - s) := by
  have hp : 0 < 2 ^ s := Nat.pow_pos (by decide)
  have hs := h.large s hx
  rcases h with ⟨h0, _⟩ | ⟨hb, h1, h2⟩
  · omega
  · refine .inr ⟨by omega, ?_, ?_⟩
    · rw [Nat.le_div_iff_mul_le hp, ← Nat.pow_add, show b - s - 1 + s = b - 1 by omega]; exact h1
    · rw [Nat.div_lt_iff_lt_mul hp, ← Nat.pow_add, show b - s + s = b by omega]; exact h2
theorem vput_len (j : Nat) : ∀ n b : Nat, n < 2 ^ (1 + 7 * j) → IsLen n b → (vput j n).length = max 1 ((b + 6) / 7) := by
  induction j with
  | zero =>
    intro n b hn h
    have := h.small 1 (by simpa using hn)
    simp only [vput, List.length_cons, List.length_nil]
    omega
  | succ j ih =>
    intro n b hn h
    rw [pow_step] at hn
    by_cases h' : n < 128
    · have := h.small 7 (by simpa using h')
      simp only [vput]
      rw [if_pos h']
      simp only [List.length_cons, List.length_nil]
      omega
    · have hb := h.large 7 (by simp; omega)
      have hd := h.down (s := 7) (by simp; omega)
      have hi := ih (n / 128) (b - 7) (by omega) hd
      simp only [vput]
      rw [if_neg h']
      simp only [List.length_cons, hi]
      omega

/-! ### m digits, of which all but the last bear the mark -/
def vputM : Nat → Nat → List Int
  | 0, _ => []
  | 1, x => [((x % 128 : Nat) : Int)]
  | m + 2, x => ((x % 128 + 128 : Nat) : Int) :: vputM (m + 1) (x / 128)
theorem vputM_vput (j : Nat) : ∀ n : Nat, n < 2 ^ (1 + 7 * j) → vputM (vput j n).length n = vput j n := by
  induction j with
  | zero =>
    intro n hn
    simp at hn
    simp only [vput, List.length_cons, List.length_nil, vputM]
    rw [Nat.mod_eq_of_lt (by omega)]
  | succ j ih =>
    intro n hn
    rw [pow_step] at hn
    by_cases h : n < 128
    · simp only [vput]
      rw [if_pos h]
      simp only [List.length_cons, List.length_nil, vputM]
      rw [Nat.mod_eq_of_lt h]
    · have hl := vput_len_pos j (n / 128)
      obtain ⟨m, hm⟩ : ∃ m, (vput j (n / 128)).length = m + 1 := ⟨(vput j (n / 128)).length - 1, by omega⟩
      have hi := ih (n / 128) (by omega)
      simp only [vput]
      rw [if_neg h]
      simp only [List.length_cons]
      rw [hm] at hi ⊢
      simp only [vputM]
      rw [hi]

/-! ### bits -/
theorem andNot128 (c : Int) (h0 : 0 ≤ c) (h1 : c ≤ 255) : Go.bits .andNot .u8 c 128 = c % 128 := by
  have : ∀ x : Fin 256, Go.bits .andNot .u8 ((x.val : Nat) : Int) 128 = ((x.val : Nat) : Int) % 128 := by decide +kernel
  have h := this ⟨c.toNat, by omega⟩
  simp only at h
  rwa [Int.toNat_of_nonneg h0] at h
theorem or128 (c : Int) (h0 : 0 ≤ c) (h1 : c < 128) : Go.bits .or .u8 c 128 = c + 128 := by
  have : ∀ x : Fin 128, Go.bits .or .u8 ((x.val : Nat) : Int) 128 = ((x.val : Nat) : Int) + 128 := by decide +kernel
  have h := this ⟨c.toNat, by omega⟩
  simp only at h
  rwa [Int.toNat_of_nonneg h0] at h
/-- x | y << s where x ends below s. -/
theorem or_join (x y s : Nat) (hx : x < 2 ^ s) (h : x + y * 2 ^ s < 18446744073709551616) : Go.bits .or .u64 (x : Int) ((y * 2 ^ s : Nat) : Int) = ((x + y * 2 ^ s : Nat) : Int) := by
  rw [u64_or_nat x (y * 2 ^ s) (by omega) (by omega), Nat.or_comm, nat_join s (y * 2 ^ s) x (Nat.mul_mod_left ..) hx, Nat.add_comm]
end Go.Proofs.YtchebkpcgglllaaGreat.VT

namespace Go.Proofs.YtchebkpcgglllaaGreat.Cu
open Go Go.SX Go.Proofs.YtchebkpcgglllaaGreat.VT
set_option maxRecDepth 100000
set_option linter.unusedVariables false

theorem follows : Tryz.prog.follows .mixedOrders = true := by kernel_rfl
theorem i64_in {n : Int} (h1 : -9223372036854775808 ≤ n) (h2 : n ≤ 9223372036854775807) : IntKind.i64.wrap n = n := by rw [IntKind.wrap_i64]; omega
theorem u64_in {n : Int} (h1 : 0 ≤ n) (h2 : n < 18446744073709551616) : IntKind.u64.wrap n = n := by rw [IntKind.wrap_u64]; omega

theorem svi {k : IntKind} {a b : Int} (h : a = b) : SV.v (.int k a) = .v (.int k b) := by rw [h]
def byts (l : List Int) : List Value := l.map (.int .u8)
def isB (l : List Int) : Prop := ∀ x ∈ l, 0 ≤ x ∧ x ≤ 255
theorem byts_length (l : List Int) : (byts l).length = l.length := by simp [byts]
theorem byts_one (l : List Int) : ∀ v ∈ byts l, v.oneCell' = true := by simp [byts, Value.oneCell']
/-- A slice of bytes that nobody changes. -/
abbrev SlB (G : Gh) (A : Option Addr) (c : Nat) (l : List Int) : Prop := Sl G A l.length c 1 (byts l)
theorem getD_isB {l : List Int} (hb : isB l) {i : Nat} (h : i < l.length) : 0 ≤ l.getD i 0 ∧ l.getD i 0 ≤ 255 := by
  rw [List.getD_eq_getElem?_getD, List.getElem?_eq_getElem h]; exact hb _ (List.getElem_mem h)
theorem el1 {G : Gh} {ad : Addr} {l : List Int} {j : Nat} (h : Gat G ad (((byts l).drop (j * 1)).take 1)) (hj : j < l.length) : Gcell G ad = some (.int .u8 (l.getD j 0)) := by
  have := h 0 (.int .u8 (l.getD j 0)) (by
    rw [List.getElem?_take, if_pos (by omega), List.getElem?_drop]
    simp [byts, List.getElem?_eq_getElem hj])
  exact this

theorem pow7 (i : Nat) (h : i ≤ 9) : 2 ^ (7 * i) * 2 ≤ 18446744073709551616 ∧ 2 ^ (7 * i) ≤ 9223372036854775808 := by
  have := Nat.pow_le_pow_right (n := 2) (by decide) (show 7 * i ≤ 63 by omega)
  omega
theorem pow7s (i : Nat) : 2 ^ (7 * (i + 1)) = 2 ^ (7 * i) * 128 := by rw [show 7 * (i + 1) = 7 * i + 7 by omega, Nat.pow_add]
theorem pow7t (i : Nat) (h : i ≤ 8) : 2 ^ (7 * i) * 256 ≤ 18446744073709551616 := by
  have := Nat.pow_le_pow_right (n := 2) (by decide) (show 7 * i ≤ 56 by omega)
  omega
/-- v, then what is decoded from digit i on. -/
def from_ (v i : Nat) (x : Int × Int × Int) : Int × Int × Int := if x.2.2 = 0 then ((v : Int) + x.1 * ((2 ^ (7 * i) : Nat) : Int), x.2.1, 0) else (0, 0, x.2.2)
theorem from_err (v i : Nat) (e : Int) (h : e ≠ 0) : from_ v i (0, 0, e) = (0, 0, e) := by unfold from_; rw [if_neg h]
theorem from_cons (v i : Nat) (d : Int) (x : Int × Int × Int) (hd : (v : Int) + d * ((2 ^ (7 * i) : Nat) : Int) = ((v + d.toNat * 2 ^ (7 * i) : Nat) : Int)) :
    from_ (v + d.toNat * 2 ^ (7 * i)) (i + 1) x = from_ v i (if x.2.2 = 0 then (d + 128 * x.1, x.2.1, 0) else (0, 0, x.2.2)) := by
  unfold from_
  by_cases h : x.2.2 = 0
  · simp only [if_pos h, if_true]
    refine Prod.ext ?_ rfl
    simp only
    rw [← hd, pow7s, Int.natCast_mul]
    generalize ((2 ^ (7 * i) : Nat) : Int) = p
    rw [Int.add_mul, Int.mul_assoc, ← Int.add_assoc, ← Int.mul_assoc x.1 p, Int.mul_comm (x.1 * p) _]; rfl
  · simp only [if_neg h]
theorem drop_at {xs : List Int} {i : Nat} (h : i < xs.length) : xs.drop i = xs.getD i 0 :: xs.drop (i + 1) := by
  rw [List.drop_eq_getElem_cons h]
  simp [List.getD_eq_getElem?_getD, List.getElem?_eq_getElem h]

theorem vdec_err {l : List Int} (hb : isB l) : (vdec 0 l).2.2 ≠ 0 → (vdec 0 l).1 = 0 ∧ (vdec 0 l).2.1 = 0 := by
  rcases vdec_spec l 0 (by omega) hb with ⟨e, _, h⟩ | ⟨n, m, h, _⟩ <;> rw [h] <;> simp
theorem from_zero (x : Int × Int × Int) (h : x.2.2 ≠ 0 → x.1 = 0 ∧ x.2.1 = 0) : from_ 0 0 x = x := by
  unfold from_
  obtain ⟨a, b, c⟩ := x
  simp only at h ⊢
  by_cases hc : c = 0
  · subst hc; simp
  · rw [if_neg hc, (h hc).1, (h hc).2]
theorem vs_bad {v i : Nat} {c : Int} {r : List Int} (h : ((i : Int) = 9 ∧ c > 1) ∨ ((i : Int) > 0 ∧ c = 0)) : from_ v i (vdec i (c :: r)) = (0, 0, 3) := by
  unfold vdec; rw [if_pos (by omega), from_err v i 3 (by decide)]
theorem vs_last {v i : Nat} {c : Int} {r : List Int} (h : ¬ (((i : Int) = 9 ∧ c > 1) ∨ ((i : Int) > 0 ∧ c = 0))) (h0 : 0 ≤ c) (hc : c < 128) : from_ v i (vdec i (c :: r)) = (((v + (c % 128).toNat * 2 ^ (7 * i) : Nat) : Int), (i : Int) + 1, 0) := by
  unfold vdec; rw [if_neg (by omega), if_pos hc]
  unfold from_
  simp only [if_true]
  push_cast
  rw [Int.toNat_of_nonneg (by omega), Int.emod_eq_of_lt h0 hc]
theorem vs_more {v i : Nat} {c : Int} {r : List Int} (h : ¬ (((i : Int) = 9 ∧ c > 1) ∨ ((i : Int) > 0 ∧ c = 0))) (h1 : c ≤ 255) (hc : ¬ c < 128) : from_ v i (vdec i (c :: r)) = from_ (v + (c % 128).toNat * 2 ^ (7 * i)) (i + 1) (vdec (i + 1) r) := by
  rw [from_cons v i (c % 128) _ (by push_cast; rw [Int.toNat_of_nonneg (by omega)])]
  conv => lhs; unfold vdec
  rw [if_neg (by omega), if_neg hc, show c % 128 = c - 128 from by omega]
theorem or_step {v i : Nat} {c : Int} (h1 : i ≤ 9) (hv : v < 2 ^ (7 * i)) (h : ¬ (((i : Int) = 9 ∧ c > 1) ∨ ((i : Int) > 0 ∧ c = 0))) (h0 : 0 ≤ c) (hc : c ≤ 255) :
    bits .or .u64 (v : Int) (IntKind.u64.wrap (IntKind.u64.wrap (bits .andNot .u8 c 128) * 2 ^ (min (((7 * i : Nat) : Int)).toNat IntKind.u64.bits))) = ((v + (c % 128).toNat * 2 ^ (7 * i) : Nat) : Int) ∧
      v + (c % 128).toNat * 2 ^ (7 * i) < 2 ^ (7 * (i + 1)) ∧ v + (c % 128).toNat * 2 ^ (7 * i) < 18446744073709551616 := by
  have hp := pow7 i h1
  have hle : (c % 128).toNat * 2 ^ (7 * i) ≤ 127 * 2 ^ (7 * i) := Nat.mul_le_mul_right _ (by omega)
  have hb : v + (c % 128).toNat * 2 ^ (7 * i) < 18446744073709551616 := by
    by_cases h9 : i = 9
    · have : (c % 128).toNat ≤ 1 := by omega
      have := Nat.mul_le_mul_right (2 ^ (7 * i)) this
      omega
    · have := pow7t i (by omega); omega
  refine ⟨?_, by rw [pow7s]; omega, hb⟩
  rw [andNot128 c h0 hc, show IntKind.u64.wrap (c % 128) = c % 128 from u64_in (by omega) (by omega)]
  rw [show min ((((7 * i : Nat) : Int)).toNat) IntKind.u64.bits = 7 * i from by simp [IntKind.bits]; omega]
  have e : (c % 128) * 2 ^ (7 * i) = (((c % 128).toNat * 2 ^ (7 * i) : Nat) : Int) := by
    push_cast
    rw [Int.toNat_of_nonneg (by omega)]
  rw [e, u64_in (by omega) (by omega), or_join v _ (7 * i) hv hb]

def InV (bs : List Int) (i v : Nat) : Prop := v < 2 ^ (7 * i) ∧ from_ v i (vdec i (bs.drop i)) = vdec 0 bs
def getR (bs : List Int) : SV := .tup [.v (.int .u64 (vdec 0 bs).1), .v (.int .i64 (vdec 0 bs).2.1), .v (.int .i64 (vdec 0 bs).2.2)]
theorem getR_of {bs : List Int} {a b c : Int} (h : (a, b, c) = vdec 0 bs) : SV.tup [.v (.int .u64 a), .v (.int .i64 b), .v (.int .i64 c)] = getR bs := by unfold getR; rw [← h]

set_option maxHeartbeats 8000000 in
theorem get_fn (G : Gh) (A : Option Addr) (c : Nat) (bs : List Int) (hb : isB bs) (hs : SlB G A c bs) :
    Ct Tryz.prog 113 [.v (.slice A bs.length c)] [] G fun sv H' G' => sv = getR bs ∧ H' = [] ∧ G' = G := by
  refine fn_of follows [] Tryz.func113 rfl rfl fun E hE => ?_
  repeat' ((fail_if_success with_reducible refine Stop.mk ?_);(conv=>whnf);with_reducible refine stop ?_)
  all_goals refine Stop.mk ?_
  refine loop_rule follows [] (α := Nat × Nat) (fun x s => ∃ i v, x = (i, v) ∧ (i ≤ 9 ∧ InV bs i v) ∧
      s = ⟨mkF 47 [(0, .v (.slice A bs.length c)), (5, .v (.int .u64 v)), (8, .v (.int .i64 i))], [], G⟩) (fun x => 10 - x.1) ⟨(0, 0), _, ⟨0, 0, rfl, ⟨by omega, ?_⟩, rfl⟩, rfl, rfl, ?_⟩ ?_
  · exact ⟨by simp, by rw [List.drop_zero, from_zero _ (vdec_err hb)]⟩
  · (repeat' (first | exact trivial | exact .inl rfl | exact .inr rfl | refine And.intro ?_ ?_))
  rintro _ s ⟨i, v, rfl, ⟨h1, h2⟩, rfl⟩
  repeat' ((fail_if_success with_reducible refine Stop.mk ?_);(conv=>whnf);with_reducible first|refine br_d (fun h=>?_) fun h=>?_|refine stop ?_)
  all_goals refine Stop.mk ?_
  · refine fin_id hE 0 rfl rfl rfl rfl ⟨?_, rfl, rfl⟩
    have := h2.2
    rw [List.drop_eq_nil_of_le (by omega)] at this
    simp only [vdec, from_err v i 1 (by decide)] at this
    exact getR_of this
  · refine ⟨⟨by omega, by omega⟩, _, hs, fun ad had hadr => ?_⟩
    repeat' ((fail_if_success with_reducible refine Stop.mk ?_);(conv=>whnf);with_reducible refine stop ?_)
    all_goals refine Stop.mk ?_
    refine ⟨_, el1 had (by omega), ?_⟩
    rw [Int.toNat_natCast]
    have hc := getD_isB hb (i := i) (by omega)
    have hstep := h2.2
    rw [drop_at (xs := bs) (i := i) (by omega)] at hstep
    generalize hcc : bs.getD i 0 = ch at *
    have hw : IntKind.i64.wrap (7 * (i : Int)) = ((7 * i : Nat) : Int) := by rw [i64_in (by omega) (by omega)]; simp
    have hw2 : IntKind.i64.wrap ((i : Int) + 1) = ((i + 1 : Nat) : Int) := by rw [i64_in (by omega) (by omega)]; simp
    repeat' ((fail_if_success with_reducible refine Stop.mk ?_);(conv=>whnf);with_reducible first|refine br_t ?_|refine br_f ?_|refine br_d (fun h=>?_) fun h=>?_|refine br_e (fun h=>?_) fun h=>?_|refine stop ?_)
    all_goals refine Stop.mk ?_
    all_goals first
      | exact fin_id hE 0 rfl rfl rfl rfl ⟨getR_of ((vs_bad (v := v) (i := i) (c := ch) (r := bs.drop (i + 1)) (by omega)).symm.trans hstep), rfl, rfl⟩
      | skip
    all_goals
      have hor := or_step h1 h2.1 (c := ch) (by omega) hc.1 hc.2
      rw [hw]
      refine ⟨by omega, ?_⟩
      repeat' ((fail_if_success with_reducible refine Stop.mk ?_);(conv=>whnf);with_reducible first|refine br_d (fun h=>?_) fun h=>?_|refine stop ?_)
      all_goals refine Stop.mk ?_
      · rw [hor.1, hw2]
        refine fin_id hE 0 rfl rfl rfl rfl ⟨getR_of ?_, rfl, rfl⟩
        rw [← hstep, vs_last (v := v) (i := i) (c := ch) (by omega) hc.1 (by omega)]; simp
      · refine ⟨(i + 1, v + (ch % 128).toNat * 2 ^ (7 * i)), _, ⟨i + 1, _, rfl, ⟨?_, ⟨hor.2.1, ?_⟩⟩, rfl⟩, ?_, rfl, rfl, ?_⟩
        · omega
        · rw [← hstep, vs_more (v := v) (i := i) (c := ch) (by omega) hc.2 (by omega)]
        · show 10 - (i + 1) < 10 - i; omega
        · rw [hor.1, hw2]
          (repeat' (first | exact trivial | exact .inl rfl | exact .inr rfl | refine And.intro ?_ ?_))
  all_goals (exfalso; omega)
end Go.Proofs.YtchebkpcgglllaaGreat.Cu

namespace Go.Proofs.YtchebkpcgglllaaGreat.Cu
open Go Go.SX Go.Proofs.YtchebkpcgglllaaGreat.VT
set_option maxRecDepth 100000
set_option linter.unusedVariables false

def tbl : List UInt8 := [0, 1, 2, 2] ++ List.replicate 4 3 ++ List.replicate 8 4 ++ List.replicate 16 5 ++ List.replicate 32 6 ++ List.replicate 64 7 ++ List.replicate 128 8
instance (n b : Nat) : Decidable (IsLen n b) := by unfold IsLen; infer_instance
theorem tbl_all : ∀ y : Fin 256, IsLen y.val (tbl.getD y.val 0).toNat ∧ (tbl.getD y.val 0).toNat ≤ 8 := by decide +kernel
theorem tbl_is {b : ByteArray} (hb : b.data.toList = tbl) (y : Int) (h0 : 0 ≤ y) (h1 : y < 256) : ∃ u, b[y.toNat]? = some u ∧ IsLen y.toNat u.toNat ∧ u.toNat ≤ 8 := by
  have hl : b.size = 256 := by rw [← ByteArray.size_data, ← Array.length_toList, hb]; decide +kernel
  have hi : y.toNat < b.size := by omega
  have h := tbl_all ⟨y.toNat, by omega⟩
  refine ⟨tbl.getD y.toNat 0, ?_, h⟩
  have e : b[y.toNat]'hi = tbl.getD y.toNat 0 := by
    have : b[y.toNat]'hi = b.data[y.toNat]'hi := rfl
    rw [this, ← Array.getElem_toList, List.getD_eq_getElem?_getD]
    simp only [hb]
    rw [List.getElem?_eq_getElem (by rw [← hb]; simpa using hi)]
    rfl
  rw [getElem?_pos b y.toNat hi, e]

theorem tbl_vc {b : ByteArray} {y : Int} {K : UInt8 → Prop} (hb : b.data.toList = tbl) (h0 : 0 ≤ y) (h1 : y < 256) (h : ∀ u : UInt8, IsLen y.toNat u.toNat → u.toNat ≤ 8 → K u) : 0 ≤ y ∧ ∃ u, b[y.toNat]? = some u ∧ K u := by
  obtain ⟨u, hu, hl, hle⟩ := tbl_is hb y h0 h1
  exact ⟨h0, u, hu, h u hl hle⟩
theorem len_fin {x : Nat} {y n : Int} {u : Nat} (s : Nat) (hl : IsLen y.toNat u) (hu : u ≤ 8) (hn : n = u + s) (hy : y.toNat = x / 2 ^ s) (hs : s = 0 ∨ 2 ^ s ≤ x) (h64 : s ≤ 56) :
    ∃ b : Nat, SV.v (.int .i64 n) = .v (.int .i64 b) ∧ IsLen x b ∧ b ≤ 64 := by
  refine ⟨u + s, by rw [hn]; simp, ?_, by omega⟩
  rw [hy] at hl
  rcases hs with rfl | hs
  · simpa using hl
  · exact hl.shift hs
set_option maxHeartbeats 8000000 in
theorem len64_fn (G : Gh) (x : Nat) (hx : x < 18446744073709551616) :
    Ct Tryz.prog 160 [.v (.int .u64 x)] [] G fun sv H' G' => (∃ b : Nat, sv = .v (.int .i64 b) ∧ IsLen x b ∧ b ≤ 64) ∧ H' = [] ∧ G' = G := by
  refine fn_of follows [] Tryz.func160 rfl rfl fun E hE => ?_
  repeat' ((fail_if_success with_reducible refine Stop.mk ?_);(conv=>whnf);with_reducible first|refine br_d (fun h=>?_) fun h=>?_|refine stop ?_)
  all_goals refine Stop.mk ?_
  all_goals
    refine tbl_vc (by decide +kernel) (by rw [IntKind.wrap_u8]; omega) (by rw [IntKind.wrap_u8]; omega) fun u hl hle => ?_
    have hu := u.toNat_lt
    repeat' ((fail_if_success with_reducible refine Stop.mk ?_);(conv=>whnf);with_reducible refine stop ?_)
    all_goals refine Stop.mk ?_
    refine fin_id hE 0 rfl rfl rfl rfl ⟨?_, rfl, rfl⟩
    simp only [IntKind.wrap_i64]
    rw [IntKind.wrap_u8] at hl
    first
      | exact len_fin 0 hl hle (by omega) (by omega) (by omega) (by omega)
      | exact len_fin 8 hl hle (by omega) (by omega) (by omega) (by omega)
      | exact len_fin 16 hl hle (by omega) (by omega) (by omega) (by omega)
      | exact len_fin 24 hl hle (by omega) (by omega) (by omega) (by omega)
      | exact len_fin 32 hl hle (by omega) (by omega) (by omega) (by omega)
      | exact len_fin 40 hl hle (by omega) (by omega) (by omega) (by omega)
      | exact len_fin 48 hl hle (by omega) (by omega) (by omega) (by omega)
      | exact len_fin 56 hl hle (by omega) (by omega) (by omega) (by omega)

/-- The length of a number's encoding. -/
def vlen (x : Nat) : Nat := (vput 9 x).length
theorem len_fn (G : Gh) (x : Nat) (hx : x < 18446744073709551616) :
    Ct Tryz.prog 154 [.v (.int .u64 x)] [] G fun sv H' G' => sv = .v (.int .i64 (vlen x)) ∧ H' = [] ∧ G' = G := by
  refine fn_of follows [] Tryz.func154 rfl rfl fun E hE => ?_
  repeat' ((fail_if_success with_reducible refine Stop.mk ?_);(conv=>whnf);with_reducible refine stop ?_)
  all_goals refine Stop.mk ?_
  refine call_fn [] (len64_fn G x hx) rfl trivial (by decide) ?_
  rintro sv H' G' ⟨⟨b, rfl, hl, hb⟩, rfl, rfl⟩ _
  refine ⟨Nat.le_refl _, ?_⟩
  repeat' ((fail_if_success with_reducible refine Stop.mk ?_);(conv=>whnf);with_reducible refine stop ?_)
  all_goals refine Stop.mk ?_
  refine fin_id hE 0 rfl rfl rfl rfl ⟨?_, rfl, rfl⟩
  have h := vput_len 9 x b (by simpa using hx) hl
  simp only [vlen, h, IntKind.wrap_i64]
  rw [Int.tdiv_eq_ediv_of_nonneg (by omega)]
  exact svi (by split <;> omega)

/-! ### zigzag -/
def zig (n : Int) : Int := if n ≥ 0 then 2 * n else -2 * n - 1
def unzig (u : Int) : Int := if u % 2 = 0 then u / 2 else -(u / 2) - 1
theorem xor_ones (x : Nat) (h : x < 18446744073709551616) : x ^^^ 18446744073709551615 = 18446744073709551615 - x := by
  have e : (BitVec.ofNat 64 x ^^^ BitVec.allOnes 64).toNat = (~~~ BitVec.ofNat 64 x).toNat := by rw [BitVec.xor_allOnes]
  rw [BitVec.toNat_not, BitVec.toNat_xor, BitVec.toNat_ofNat, BitVec.toNat_allOnes, Nat.mod_eq_of_lt (by simpa using h)] at e
  simpa using e
theorem and_one (x : Nat) (h : x < 18446744073709551616) : Go.bits .and .u64 (x : Int) 1 = ((x % 2 : Nat) : Int) := by
  have e := u64_and_nat x 1 h (by decide)
  rw [Nat.and_one_is_mod] at e
  exact e
theorem xor_i64_zero (x : Int) (h0 : 0 ≤ x) (h1 : x ≤ 9223372036854775807) : Go.bits .xor .i64 x 0 = x := by
  unfold Go.bits
  have e : (BitVec.ofInt IntKind.i64.bits x ^^^ BitVec.ofInt IntKind.i64.bits 0) = BitVec.ofInt IntKind.i64.bits x := by
    rw [show BitVec.ofInt IntKind.i64.bits 0 = 0#_ from by rfl, BitVec.xor_zero]
  simp only [e]
  rw [BitVec.toNat_ofInt, IntKind.wrap_i64]
  simp only [IntKind.bits]
  omega
theorem xor_i64_ones (x : Int) (h0 : 0 ≤ x) (h1 : x ≤ 9223372036854775807) : Go.bits .xor .i64 x (-1) = -x - 1 := by
  unfold Go.bits
  have e : (BitVec.ofInt IntKind.i64.bits x ^^^ BitVec.ofInt IntKind.i64.bits (-1)) = ~~~ (BitVec.ofInt IntKind.i64.bits x) := by
    rw [show BitVec.ofInt IntKind.i64.bits (-1) = BitVec.allOnes _ from by rfl, BitVec.xor_allOnes]
  simp only [e]
  rw [BitVec.toNat_not, BitVec.toNat_ofInt, IntKind.wrap_i64]
  simp only [IntKind.bits]
  omega
theorem unzig_zig (n : Int) : unzig (zig n) = n := by unfold unzig zig; split <;> split <;> omega
theorem zig_unzig (u : Int) (h : 0 ≤ u) : zig (unzig u) = u := by unfold unzig zig; split <;> split <;> omega
theorem zig_range (n : Int) (h0 : -9223372036854775808 ≤ n) (h1 : n ≤ 9223372036854775807) : 0 ≤ zig n ∧ zig n < 18446744073709551616 := by unfold zig; split <;> omega
theorem unzig_range (u : Int) (h0 : 0 ≤ u) (h1 : u < 18446744073709551616) : -9223372036854775808 ≤ unzig u ∧ unzig u ≤ 9223372036854775807 := by unfold unzig; split <;> omega

theorem zigzag_fn (G : Gh) (n : Int) (h0 : -9223372036854775808 ≤ n) (h1 : n ≤ 9223372036854775807) :
    Ct Tryz.prog 161 [.v (.int .i64 n)] [] G fun sv H' G' => sv = .v (.int .u64 (zig n)) ∧ H' = [] ∧ G' = G := by
  refine fn_of follows [] Tryz.func161 rfl rfl fun E hE => ?_
  repeat' ((fail_if_success with_reducible refine Stop.mk ?_);(conv=>whnf);with_reducible refine stop ?_)
  all_goals refine Stop.mk ?_
  refine fin_id hE 0 rfl rfl rfl rfl ⟨svi ?_, rfl, rfl⟩
  unfold zig
  by_cases h : n ≥ 0
  · rw [if_pos h, u64_in (n := n) (by omega) (by omega), show n / 9223372036854775808 = 0 from by omega, u64_in (n := n * 2) (by omega) (by omega), u64_in (n := 0) (by omega) (by omega)]
    obtain ⟨m, rfl⟩ := Int.eq_ofNat_of_zero_le h
    have e := u64_xor_nat (m * 2) 0 (by omega) (by omega)
    rw [Nat.xor_zero] at e
    rw [show ((m : Int) * 2) = ((m * 2 : Nat) : Int) from by omega, show (0 : Int) = ((0 : Nat) : Int) from rfl, e]
    omega
  · rw [if_neg h, show n / 9223372036854775808 = -1 from by omega, IntKind.wrap_u64, IntKind.wrap_u64, IntKind.wrap_u64]
    obtain ⟨m, hm⟩ : ∃ m : Nat, (m : Int) = -2 * n - 1 := ⟨(-2 * n - 1).toNat, by omega⟩
    rw [show n % 18446744073709551616 * 2 % 18446744073709551616 = ((18446744073709551615 - m : Nat) : Int) from by omega, show (-1 : Int) % 18446744073709551616 = ((18446744073709551615 : Nat) : Int) from by decide]
    rw [u64_xor_nat _ _ (by omega) (by decide), xor_ones _ (by omega)]
    omega
theorem unzigzag_fn (G : Gh) (u : Int) (h0 : 0 ≤ u) (h1 : u < 18446744073709551616) :
    Ct Tryz.prog 146 [.v (.int .u64 u)] [] G fun sv H' G' => sv = .v (.int .i64 (unzig u)) ∧ H' = [] ∧ G' = G := by
  refine fn_of follows [] Tryz.func146 rfl rfl fun E hE => ?_
  repeat' ((fail_if_success with_reducible refine Stop.mk ?_);(conv=>whnf);with_reducible refine stop ?_)
  all_goals refine Stop.mk ?_
  refine fin_id hE 0 rfl rfl rfl rfl ⟨svi ?_, rfl, rfl⟩
  unfold unzig
  obtain ⟨m, rfl⟩ := Int.eq_ofNat_of_zero_le h0
  rw [and_one m (by omega), i64_in (n := (m : Int) / 2) (by omega) (by omega), i64_in (n := ((m % 2 : Nat) : Int)) (by omega) (by omega)]
  by_cases h : (m : Int) % 2 = 0
  · rw [if_pos h, show 0 - ((m % 2 : Nat) : Int) = 0 from by omega, i64_in (n := 0) (by omega) (by omega), xor_i64_zero _ (by omega) (by omega)]
  · rw [if_neg h, show 0 - ((m % 2 : Nat) : Int) = -1 from by omega, i64_in (n := -1) (by omega) (by omega), xor_i64_ones _ (by omega) (by omega)]

/-! ### Put -/
def putB (x : Nat) : List Int := vput 9 x
/-- m digits, all with the mark. -/
def vputA : Nat → Nat → List Int
  | 0, _ => []
  | m + 1, x => ((x % 128 + 128 : Nat) : Int) :: vputA m (x / 128)
theorem vputA_M : ∀ m x, (vputA (m + 1) x).set m ((vputA (m + 1) x).getD m 0 % 128) = vputM (m + 1) x
  | 0, x => by simp [vputA, vputM]
  | m + 1, x => by
    have := vputA_M m (x / 128)
    rw [show vputA (m + 1 + 1) x = ((x % 128 + 128 : Nat) : Int) :: vputA (m + 1) (x / 128) from rfl, show vputM (m + 1 + 1) x = ((x % 128 + 128 : Nat) : Int) :: vputM (m + 1) (x / 128) from rfl, ← this]
    simp
theorem take_set_succ (xs : List Int) (i : Nat) (a : Int) (h : i < xs.length) : (xs.set i a).take (i + 1) = xs.take i ++ [a] := by
  rw [List.take_succ_eq_append_getElem (by rw [List.length_set]; exact h), List.getElem_set_self, List.take_set, List.set_eq_of_length_le (by rw [List.length_take]; omega)]
theorem byts_set (xs : List Int) (i : Nat) (a : Int) : (byts xs).set i (.int .u8 a) = byts (xs.set i a) := by simp [byts, List.map_set]
theorem byts_rep (n : Nat) : List.replicate n (Value.int .u8 0) = byts (List.replicate n 0) := by simp [byts]
theorem byts_get {xs : List Int} {i : Nat} (h : i < xs.length) : (byts xs)[i]? = some (.int .u8 (xs.getD i 0)) := by simp [byts, List.getElem?_eq_getElem h]
/-- The bytes so far: i digits are written. -/
def InP (n x : Nat) (i y : Nat) (xs : List Int) : Prop := xs.length = n ∧ xs.take i ++ vputA (n - i) y = vputA n x ∧ y < 18446744073709551616
theorem InP_step {n x i y : Nat} {xs : List Int} (h : InP n x i y xs) (hi : i < n) : InP n x (i + 1) (y / 128) (xs.set i ((y : Int) % 128 % 256 + 128)) := by
  obtain ⟨h1, h2, h3⟩ := h
  refine ⟨by simp [h1], ?_, by omega⟩
  rw [take_set_succ xs i _ (by omega), ← h2, show n - i = (n - (i + 1)) + 1 by omega]
  simp only [vputA, List.append_assoc, List.singleton_append]
  congr 2
  omega
theorem InP_last {x : Nat} {y : Nat} {xs : List Int} (hx : x < 18446744073709551616) (h : InP (vput 9 x).length x (vput 9 x).length y xs) : xs.set ((vput 9 x).length - 1) (xs.getD ((vput 9 x).length - 1) 0 % 128) = vput 9 x := by
  obtain ⟨h1, h2, _⟩ := h
  have hpos := vput_len_pos 9 x
  rw [Nat.sub_self, List.take_of_length_le (by omega)] at h2
  simp only [vputA, List.append_nil] at h2
  subst h2
  have hm := vputM_vput 9 x (by simpa using hx)
  obtain ⟨m, hl⟩ : ∃ m, (vput 9 x).length = m + 1 := ⟨(vput 9 x).length - 1, by omega⟩
  rw [hl] at hm ⊢
  rw [Nat.add_sub_cancel, vputA_M]
  exact hm
theorem InP_range {n x i y : Nat} {xs : List Int} (h : InP n x n y xs) (hi : i < n) : 0 ≤ xs.getD i 0 ∧ xs.getD i 0 ≤ 255 := by
  obtain ⟨h1, h2, _⟩ := h
  rw [Nat.sub_self, List.take_of_length_le (by omega)] at h2
  simp only [vputA, List.append_nil] at h2
  subst h2
  have key : ∀ (m y i : Nat), i < m → 0 ≤ (vputA m y).getD i 0 ∧ (vputA m y).getD i 0 ≤ 255 := by
    intro m
    induction m with
    | zero => intro y i hi; omega
    | succ m ih =>
      intro y i hi
      cases i with
      | zero => simp [vputA]; omega
      | succ i => simpa [vputA] using ih (y / 128) i (by omega)
  exact key n x i hi

set_option maxHeartbeats 8000000 in
theorem put_fn (G : Gh) (x : Nat) (hx : x < 18446744073709551616) :
    Ct Tryz.prog 135 [.v (.int .u64 x)] [] G fun sv H' G' => (∃ A c, sv = .v (.slice A (putB x).length c) ∧ SlB G' A c (putB x)) ∧ H' = [] := by
  refine fn_of follows [] Tryz.func135 rfl rfl fun E hE => ?_
  have hpos := vput_len_pos 9 x
  have hle := vput_len_le 9 x
  repeat' ((fail_if_success with_reducible refine Stop.mk ?_);(conv=>whnf);with_reducible refine stop ?_)
  all_goals refine Stop.mk ?_
  refine call_fn [] (len_fn G x hx) rfl trivial (by decide) ?_
  rintro sv H' G' ⟨rfl, rfl, rfl⟩ _
  refine ⟨Nat.le_refl _, ?_⟩
  unfold vlen
  have hlast := @InP_last x
  have h0 : InP (vput 9 x).length x 0 x (List.replicate (vput 9 x).length 0) := ⟨by simp, by simp, hx⟩
  generalize hn : (vput 9 x).length = n at *
  repeat' ((fail_if_success with_reducible refine Stop.mk ?_);(conv=>whnf);with_reducible refine stop ?_)
  all_goals refine Stop.mk ?_
  refine ⟨rfl, ⟨by omega, by omega⟩, ?_⟩
  rw [Int.toNat_natCast, byts_rep]
  repeat' ((fail_if_success with_reducible refine Stop.mk ?_);(conv=>whnf);with_reducible refine stop ?_)
  all_goals refine Stop.mk ?_
  refine loop_rule follows [] (α := Nat) (fun k s => ∃ y xs, (k ≤ n ∧ InP n x k y xs) ∧
      s = ⟨mkF 32 [(0, .v (.int .u64 y)), (3, .v (.int .i64 n)), (4, .s 0), (10, .v (.int .i64 n)), (11, .v (.int .i64 k))], [.row 5 1 n (byts xs)], G'⟩) (fun k => n - k) ⟨0, _, ⟨x, _, ⟨by omega, h0⟩, rfl⟩, rfl, rfl, ?_⟩ ?_
  · (repeat' (first | exact trivial | exact .inl rfl | exact .inr rfl | refine And.intro ?_ ?_))
  rintro i s ⟨y, xs, ⟨h1, h2⟩, rfl⟩
  have hy := h2.2.2
  have hxl := h2.1
  have hw2 : IntKind.i64.wrap ((i : Int) + 1) = ((i + 1 : Nat) : Int) := by rw [i64_in (by omega) (by omega)]; simp
  repeat' ((fail_if_success with_reducible refine Stop.mk ?_);(conv=>whnf);with_reducible first|refine br_d (fun h=>?_) fun h=>?_|refine stop ?_)
  all_goals refine Stop.mk ?_
  · refine ⟨⟨by omega, by omega⟩, ?_⟩
    repeat' ((fail_if_success with_reducible refine Stop.mk ?_);(conv=>whnf);with_reducible refine stop ?_)
    all_goals refine Stop.mk ?_
    refine ⟨by rw [byts_length]; omega, ?_⟩
    rw [Nat.mul_one, Int.toNat_natCast, byts_set, Int.tmod_eq_emod_of_nonneg (by omega), IntKind.wrap_u8, or128 _ (by omega) (by omega)]
    repeat' ((fail_if_success with_reducible refine Stop.mk ?_);(conv=>whnf);with_reducible refine stop ?_)
    all_goals refine Stop.mk ?_
    rw [hw2]
    refine ⟨i + 1, _, ⟨_, _, ⟨by omega, InP_step h2 (by omega)⟩, rfl⟩, by omega, rfl, rfl, ?_⟩
    rw [show ((y : Int) / 128) = ((y / 128 : Nat) : Int) by omega]
    (repeat' (first | exact trivial | exact .inl rfl | exact .inr rfl | refine And.intro ?_ ?_))
  · obtain rfl : i = n := by omega
    have hwn : IntKind.i64.wrap ((i : Int) - 1) = ((i - 1 : Nat) : Int) := by rw [i64_in (by omega) (by omega)]; omega
    rw [hwn]
    refine ⟨⟨by omega, by omega⟩, ?_⟩
    repeat' ((fail_if_success with_reducible refine Stop.mk ?_);(conv=>whnf);with_reducible refine stop ?_)
    all_goals refine Stop.mk ?_
    refine ⟨_, by rw [Nat.mul_one, Int.toNat_natCast]; exact byts_get (by omega), ?_⟩
    repeat' ((fail_if_success with_reducible refine Stop.mk ?_);(conv=>whnf);with_reducible refine stop ?_)
    all_goals refine Stop.mk ?_
    refine ⟨⟨by omega, by omega⟩, ?_⟩
    repeat' ((fail_if_success with_reducible refine Stop.mk ?_);(conv=>whnf);with_reducible refine stop ?_)
    all_goals refine Stop.mk ?_
    refine ⟨by rw [byts_length]; omega, ?_⟩
    have hr := InP_range h2 (i := i - 1) (by omega)
    rw [Nat.mul_one, Int.toNat_natCast, byts_set, andNot128 _ hr.1 hr.2, hlast hx h2]
    repeat' ((fail_if_success with_reducible refine Stop.mk ?_);(conv=>whnf);with_reducible refine stop ?_)
    all_goals refine Stop.mk ?_
    refine fin_done 0 rfl (byts_one _) fun A c G2 hg hsl => fin_id hE 0 rfl rfl rfl rfl ⟨⟨A, c, ?_, ?_⟩, rfl⟩
    · show SV.v _ = _; unfold putB; rw [hn]
    · unfold putB SlB; rw [hn]; exact hsl
end Go.Proofs.YtchebkpcgglllaaGreat.Cu

namespace Go.Proofs.YtchebkpcgglllaaGreat.Cu
open Go Go.SX Go.Proofs.YtchebkpcgglllaaGreat.VT
set_option maxRecDepth 100000
set_option linter.unusedVariables false

theorem refUnzigzag_fn (G : Gh) (u : Int) (h0 : 0 ≤ u) (h1 : u < 18446744073709551616) :
    Ct Tryz.prog 148 [.v (.int .u64 u)] [] G fun sv H' G' => sv = .v (.int .i64 (unzig u)) ∧ H' = [] ∧ G' = G := by
  refine fn_of follows [] Tryz.func148 rfl rfl fun E hE => ?_
  repeat' ((fail_if_success with_reducible refine Stop.mk ?_);(conv=>whnf);with_reducible first|refine br_e (fun h=>?_) fun h=>?_|refine stop ?_)
  all_goals refine Stop.mk ?_
  · refine fin_id hE 0 rfl rfl rfl rfl ⟨svi ?_, rfl, rfl⟩
    unfold unzig
    rw [Int.tmod_eq_emod_of_nonneg (by omega)] at *
    rw [Int.tdiv_eq_ediv_of_nonneg (by omega), if_pos (by assumption), u64_in (by omega) (by omega), i64_in (by omega) (by omega)]
  · refine fin_id hE 0 rfl rfl rfl rfl ⟨svi ?_, rfl, rfl⟩
    unfold unzig
    rw [Int.tmod_eq_emod_of_nonneg (by omega)] at *
    rw [Int.tdiv_eq_ediv_of_nonneg (by omega), if_neg (by assumption), u64_in (by omega) (by omega), i64_in (n := u / 2) (by omega) (by omega), i64_in (n := 0 - u / 2) (by omega) (by omega), i64_in (by omega) (by omega)]
    omega
theorem from_last {v i : Nat} {c : Int} {r : List Int} (h : ¬ (((i : Int) = 9 ∧ c > 1) ∨ ((i : Int) > 0 ∧ c = 0))) (h0 : 0 ≤ c) (hc : c < 128) : from_ v i (vdec i (c :: r)) = ((v : Int) + c * ((2 ^ (7 * i) : Nat) : Int), (i : Int) + 1, 0) := by
  unfold vdec; rw [if_neg (by omega), if_pos hc]
  unfold from_
  simp only [if_true]
set_option maxHeartbeats 8000000 in
theorem refGet_fn (G : Gh) (A : Option Addr) (c : Nat) (bs : List Int) (hb : isB bs) (hs : SlB G A c bs) :
    Ct Tryz.prog 79 [.v (.slice A bs.length c)] [] G fun sv H' G' => sv = getR bs ∧ H' = [] ∧ G' = G := by
  refine fn_of follows [] Tryz.func79 rfl rfl fun E hE => ?_
  repeat' ((fail_if_success with_reducible refine Stop.mk ?_);(conv=>whnf);with_reducible refine stop ?_)
  all_goals refine Stop.mk ?_
  refine loop_rule follows [] (α := Nat × Nat) (fun x s => ∃ i v p : Nat, x = (i, v) ∧ (i ≤ 9 ∧ p = 2 ^ (7 * i) ∧ InV bs i v) ∧
      s = ⟨mkF 51 [(0, .v (.slice A bs.length c)), (5, .v (.int .u64 v)), (6, .v (.int .u64 p)), (7, .v (.int .i64 i))], [], G⟩) (fun x => 10 - x.1) ⟨(0, 0), _, ⟨0, 0, 1, rfl, ⟨by omega, by simp, ?_⟩, rfl⟩, rfl, rfl, ?_⟩ ?_
  · exact ⟨by simp, by rw [List.drop_zero, from_zero _ (vdec_err hb)]⟩
  · (repeat' (first | exact trivial | exact .inl rfl | exact .inr rfl | refine And.intro ?_ ?_))
  rintro _ s ⟨i, v, p, rfl, ⟨h1, hp, h2⟩, rfl⟩
  repeat' ((fail_if_success with_reducible refine Stop.mk ?_);(conv=>whnf);with_reducible first|refine br_d (fun h=>?_) fun h=>?_|refine stop ?_)
  all_goals refine Stop.mk ?_
  · refine ⟨⟨by omega, by omega⟩, _, hs, fun ad had hadr => ?_⟩
    repeat' ((fail_if_success with_reducible refine Stop.mk ?_);(conv=>whnf);with_reducible refine stop ?_)
    all_goals refine Stop.mk ?_
    refine ⟨_, el1 had (by omega), ?_⟩
    rw [Int.toNat_natCast]
    have hc := getD_isB hb (i := i) (by omega)
    have hstep := h2.2
    rw [drop_at (xs := bs) (i := i) (by omega)] at hstep
    generalize hcc : bs.getD i 0 = ch at *
    have hw2 : IntKind.i64.wrap ((i : Int) + 1) = ((i + 1 : Nat) : Int) := by rw [i64_in (by omega) (by omega)]; simp
    have hwc : IntKind.u64.wrap ch = ch := u64_in (by omega) (by omega)
    clear had hcc hb
    repeat' ((fail_if_success with_reducible refine Stop.mk ?_);(conv=>whnf);with_reducible first|refine br_t ?_|refine br_f ?_|refine br_d (fun h=>?_) fun h=>?_|refine br_e (fun h=>?_) fun h=>?_|refine stop ?_)
    all_goals refine Stop.mk ?_
    all_goals first
      | exact fin_id hE 0 rfl rfl rfl rfl ⟨getR_of ((vs_bad (v := v) (i := i) (c := ch) (r := bs.drop (i + 1)) (by omega)).symm.trans hstep), rfl, rfl⟩
      | skip
    all_goals
      have hnb : ¬ (((i : Int) = 9 ∧ ch > 1) ∨ ((i : Int) > 0 ∧ ch = 0)) := by omega
      have hor := (or_step h1 h2.1 hnb hc.1 hc.2).2
      rw [← hp] at hor
      obtain ⟨d, hd⟩ : ∃ d : Nat, (ch % 128).toNat = d := ⟨_, rfl⟩
      rw [hd] at hor
      have hdp : ((d * p : Nat) : Int) = (d : Int) * p := by simp
      first
        | (have hlt : IntKind.u64.wrap ch < 128 := by assumption
           have hcd : ch = d := by omega
           have e1 : IntKind.u64.wrap ((v : Int) + IntKind.u64.wrap (IntKind.u64.wrap ch * (p : Int))) = (v : Int) + ch * p := by
             rw [hwc, hcd, ← hdp, u64_in (n := ((d * p : Nat) : Int)) (by omega) (by omega), u64_in (by omega) (by omega)]
           rw [e1, hw2]
           refine fin_id hE 0 rfl rfl rfl rfl ⟨getR_of ?_, rfl, rfl⟩
           rw [← hstep, from_last hnb hc.1 (by omega), hp]
           simp)
        | (have hge : ¬ IntKind.u64.wrap ch < 128 := by assumption
           have hcd : ch - 128 = d := by omega
           have hi8 : i ≤ 8 := by omega
           have hpt := pow7t i hi8
           rw [← hp] at hpt
           have e1 : IntKind.u64.wrap ((v : Int) + IntKind.u64.wrap (IntKind.u64.wrap (IntKind.u64.wrap ch - 128) * (p : Int))) = ((v + d * p : Nat) : Int) := by
             rw [hwc, hcd, u64_in (n := (d : Int)) (by omega) (by omega), ← hdp, u64_in (n := ((d * p : Nat) : Int)) (by omega) (by omega), u64_in (by omega) (by omega)]; simp
           have e2 : IntKind.u64.wrap ((p : Int) * 128) = ((p * 128 : Nat) : Int) := by rw [u64_in (by omega) (by omega)]; simp
           rw [e1, e2, hw2]
           refine ⟨(i + 1, v + d * p), _, ⟨i + 1, v + d * p, p * 128, rfl, ⟨by omega, by rw [hp, pow7s], ⟨hor.1, ?_⟩⟩, rfl⟩, ?_, rfl, rfl, ?_⟩
           · rw [← hstep, vs_more (v := v) (i := i) (c := ch) hnb hc.2 (by omega), hd, hp]
           · show 10 - (i + 1) < 10 - i; omega
           · (repeat' (first | exact trivial | exact .inl rfl | exact .inr rfl | refine And.intro ?_ ?_)))
  · refine fin_id hE 0 rfl rfl rfl rfl ⟨?_, rfl, rfl⟩
    have := h2.2
    rw [List.drop_eq_nil_of_le (by omega)] at this
    simp only [vdec, from_err v i 1 (by decide)] at this
    exact getR_of this
end Go.Proofs.YtchebkpcgglllaaGreat.Cu

namespace Go.Proofs.YtchebkpcgglllaaGreat.Cu
open Go Go.SX Go.Proofs.YtchebkpcgglllaaGreat.VT
set_option maxRecDepth 100000
set_option linter.unusedVariables false

def curO (A : Option Addr) (n c : Nat) (a e : Int) : Ob := .cells 171 [.v (.slice A n c), .v (.int .i64 a), .v (.int .i64 e)]

theorem err_fn (G : Gh) (A : Option Addr) (n c : Nat) (a e : Int) :
    Ct Tryz.prog 62 [.p 0 0] [curO A n c a e] G fun sv H' G' => sv = .v (.int .i64 e) ∧ H' = [curO A n c a e] ∧ G' = G := by
  refine fn_of follows [] Tryz.func62 rfl rfl fun E hE => ?_
  repeat' ((fail_if_success with_reducible refine Stop.mk ?_);(conv=>whnf);with_reducible first|refine br_f ?_|refine stop ?_)
  all_goals refine Stop.mk ?_
  exact fin_all ⟨rfl, rfl, rfl⟩
def failE (e why : Int) : Int := if e = 0 then why else e
theorem fail_fn (G : Gh) (A : Option Addr) (n c : Nat) (a e why : Int) :
    Ct Tryz.prog 63 [.p 0 0, .v (.int .i64 why)] [curO A n c a e] G fun sv H' G' => sv = .tup [] ∧ H' = [curO A n c a (failE e why)] ∧ G' = G := by
  refine fn_of follows [] Tryz.func63 rfl rfl fun E hE => ?_
  repeat' ((fail_if_success with_reducible refine Stop.mk ?_);(conv=>whnf);with_reducible first|refine br_f ?_|refine br_not ?_|refine br_e (fun h=>?_) fun h=>?_|refine stop ?_)
  all_goals refine Stop.mk ?_
  · exact fin_all ⟨rfl, by simp [failE, *, curO], rfl⟩
  · exact fin_all ⟨rfl, by simp [failE, *, curO], rfl⟩
def leftN (n : Nat) (a e : Int) : Int := if e = 0 then n - a else 0
theorem left_fn (G : Gh) (A : Option Addr) (n c : Nat) (a e : Int) (h0 : 0 ≤ a) (h1 : a ≤ n) (hn : n ≤ 9223372036854775807) :
    Ct Tryz.prog 65 [.p 0 0] [curO A n c a e] G fun sv H' G' => sv = .v (.int .i64 (leftN n a e)) ∧ H' = [curO A n c a e] ∧ G' = G := by
  refine fn_of follows [(3, (.cons 0 [] (.cons 1 [] (.cons 2 [] (.cons 3 [] (.cons 4 [] (.cons 5 [] (.cons 6 [] (.cons 7 [] (.cons 8 [] (.cons 9 [] (.cons 10 [] .nil))))))))))))] Tryz.func65 rfl rfl fun E hE => ?_
  repeat' ((fail_if_success with_reducible refine Stop.mk ?_);(conv=>whnf);with_reducible first|refine br_f ?_|refine br_n (fun h=>?_) fun h=>?_|refine drw (by kernel_rfl) ?_|refine stop ?_)
  all_goals refine Stop.mk ?_
  · exact fin_all ⟨svi (by rw [i64_in (by omega) (by omega), leftN, if_pos (by omega)]), rfl, rfl⟩
  · exact fin_all ⟨svi (by rw [leftN, if_neg (by omega)]), rfl, rfl⟩
/-- A part of a slice of bytes. -/
theorem slB_drop {G : Gh} {A A' : Option Addr} {c : Nat} {bs : List Int} (hs : SlB G A c bs) (a : Nat) (ha : a ≤ bs.length) (hA : A' = if c = a then A else A.map (·.add (a * 1))) : SlB G A' (c - a) (bs.drop a) := by
  have hc := hs.cap
  refine ⟨by simp [byts], by simp; omega, by have := hs.top; omega, fun ad had => ?_, fun hn => ?_, byts_one _⟩
  · have hd : byts (bs.drop a) = (byts bs).drop a := by simp [byts, List.map_drop]
    rw [hd]
    by_cases hca : c = a
    · have : (byts bs).drop a = [] := List.drop_eq_nil_of_le (by rw [byts_length]; omega)
      rw [this]; intro j v hj; simp at hj
    · rw [if_neg hca] at hA
      cases A with
      | none => rw [hA] at had; simp at had
      | some ad0 =>
        rw [hA] at had
        simp at had
        subst had
        by_cases hl : a < (byts bs).length
        · exact (hs.there ad0 rfl).drop_ a hl
        · rw [List.drop_eq_nil_of_le (by omega)]; intro j v hj; simp at hj
  · by_cases hca : c = a
    · rw [if_pos hca] at hA
      have := hs.nil (by rw [← hA]; exact hn)
      simp; omega
    · rw [if_neg hca] at hA
      cases A with
      | none => have := hs.nil rfl; simp; omega
      | some ad0 => rw [hA] at hn; simp at hn
theorem slB_take {G : Gh} {A : Option Addr} {c : Nat} {bs : List Int} (hs : SlB G A c bs) (k : Nat) (hk : k ≤ bs.length) : Sl G A k c 1 (byts (bs.take k)) := by
  have hc := hs.cap
  refine ⟨by simp [byts]; omega, by omega, hs.top, fun ad had => ?_, fun hn => ?_, byts_one _⟩
  · have hd : byts (bs.take k) = (byts bs).take k := by simp [byts, List.map_take]
    rw [hd]; exact (hs.there ad had).take_ k
  · have := hs.nil hn; omega

/-- What a read comes to, 1 captured. -/
def ReadP1 (A : Option Addr) (bs : List Int) (c a : Nat) (e : Int) (x1 : Ob) (G : Gh) (PF : Nat → Int → Ob → Gh → Prop) (H' : List Ob) (G' : Gh) : Prop :=
  (e ≠ 0 ∧ H' = [curO A bs.length c a e, x1] ∧ G' = G) ∨
  (e = 0 ∧ ∃ r why y1, PF r why y1 G' ∧ H' = [curO A bs.length c (if why = 0 then ((a + r : Nat) : Int) else a) why, y1])
set_option maxHeartbeats 8000000 in
theorem read_fn1 (G : Gh) (A : Option Addr) (bs : List Int) (c a : Nat) (e : Int) (F : FuncId) (x1 : Ob) (PF : Nat → Int → Ob → Gh → Prop) (hs : SlB G A c bs) (ha : a ≤ bs.length)
    (hr : ∀ r why y1 G', PF r why y1 G' → why = 0 → a + r ≤ bs.length)
    (hF : e = 0 → ∀ (E : Env) (fr : List SV) (A' : Option Addr) (K : List Nat → SV → St → Prop), SlB G A' (c - a) (bs.drop a) →
      (∀ T r why y1 G', PF r why y1 G' → Ghe G G' → K T (.tup [.v (.int .i64 (r : Nat)), .v (.int .i64 why)]) ⟨fr, [curO A bs.length c a 0, y1], G'⟩) →
      CallVC Tryz.prog E F (.v (.slice A' (bs.drop a).length (c - a)) :: [.p 1 0]) ⟨fr, [curO A bs.length c a 0, x1], G⟩ K) :
    Ct Tryz.prog 110 [.p 0 0, .f (.func F) [] [.p 1 0]] [curO A bs.length c a e, x1] G fun sv H' G' => sv = .tup [] ∧ ReadP1 A bs c a e x1 G PF H' G' := by
  refine fn_of follows [(1, (.cons 0 [] (.cons 1 [] (.cons 2 [] (.cons 3 [] (.cons 4 [] (.cons 5 [] (.cons 6 [] (.cons 7 [] (.cons 8 [] (.cons 9 [] (.cons 10 [4, 8] (.cons 11 [] (.cons 12 [] (.cons 13 [] (.cons 14 [] (.cons 15 [] .nil)))))))))))))))))] Tryz.func110 rfl rfl fun E hE => ?_
  have hc := hs.cap
  have htop := hs.top
  repeat' ((fail_if_success with_reducible refine Stop.mk ?_);(conv=>whnf);with_reducible first|refine br_f ?_|refine br_n (fun h=>?_) fun h=>?_|refine drw (by kernel_rfl) ?_|refine stop ?_)
  all_goals refine Stop.mk ?_
  · obtain rfl : e = 0 := by omega
    refine ⟨⟨by omega, by omega⟩, fun A' hA' => ?_⟩
    rw [Int.toNat_natCast] at hA' ⊢
    have hs' := slB_drop hs a ha hA'
    rw [show bs.length - a = (bs.drop a).length by simp]
    repeat' ((fail_if_success with_reducible refine Stop.mk ?_);(conv=>whnf);with_reducible refine stop ?_)
    all_goals refine Stop.mk ?_
    refine hF rfl E _ _ _ hs' fun T r why y1 G' hp hg => ?_
    have hr' := hr r why y1 G' hp
    repeat' ((fail_if_success with_reducible refine Stop.mk ?_);(conv=>whnf);with_reducible first|refine br_n (fun h=>?_) fun h=>?_|refine stop ?_)
    all_goals refine Stop.mk ?_
    · have hw : IntKind.i64.wrap ((a : Int) + (r : Int)) = ((a + r : Nat) : Int) := by have := hr' (by omega); rw [i64_in (by omega) (by omega)]; simp
      rw [hw]
      obtain rfl : why = 0 := by omega
      exact fin_all ⟨rfl, .inr ⟨rfl, r, 0, y1, hp, by rw [if_pos rfl]; try rfl⟩⟩
    · exact fin_all ⟨rfl, .inr ⟨rfl, r, why, y1, hp, by rw [if_neg (by assumption)]; try rfl⟩⟩
  · exact fin_all ⟨rfl, .inl ⟨by assumption, rfl, rfl⟩⟩

/-- What a read comes to, 2 captured. -/
def ReadP2 (A : Option Addr) (bs : List Int) (c a : Nat) (e : Int) (x1 : Ob) (x2 : Ob) (G : Gh) (PF : Nat → Int → Ob → Ob → Gh → Prop) (H' : List Ob) (G' : Gh) : Prop :=
  (e ≠ 0 ∧ H' = [curO A bs.length c a e, x1, x2] ∧ G' = G) ∨
  (e = 0 ∧ ∃ r why y1 y2, PF r why y1 y2 G' ∧ H' = [curO A bs.length c (if why = 0 then ((a + r : Nat) : Int) else a) why, y1, y2])
set_option maxHeartbeats 8000000 in
theorem read_fn2 (G : Gh) (A : Option Addr) (bs : List Int) (c a : Nat) (e : Int) (F : FuncId) (x1 : Ob) (x2 : Ob) (PF : Nat → Int → Ob → Ob → Gh → Prop) (hs : SlB G A c bs) (ha : a ≤ bs.length)
    (hr : ∀ r why y1 y2 G', PF r why y1 y2 G' → why = 0 → a + r ≤ bs.length)
    (hF : e = 0 → ∀ (E : Env) (fr : List SV) (A' : Option Addr) (K : List Nat → SV → St → Prop), SlB G A' (c - a) (bs.drop a) →
      (∀ T r why y1 y2 G', PF r why y1 y2 G' → Ghe G G' → K T (.tup [.v (.int .i64 (r : Nat)), .v (.int .i64 why)]) ⟨fr, [curO A bs.length c a 0, y1, y2], G'⟩) →
      CallVC Tryz.prog E F (.v (.slice A' (bs.drop a).length (c - a)) :: [.p 1 0, .p 2 0]) ⟨fr, [curO A bs.length c a 0, x1, x2], G⟩ K) :
    Ct Tryz.prog 110 [.p 0 0, .f (.func F) [] [.p 1 0, .p 2 0]] [curO A bs.length c a e, x1, x2] G fun sv H' G' => sv = .tup [] ∧ ReadP2 A bs c a e x1 x2 G PF H' G' := by
  refine fn_of follows [(1, (.cons 0 [] (.cons 1 [] (.cons 2 [] (.cons 3 [] (.cons 4 [] (.cons 5 [] (.cons 6 [] (.cons 7 [] (.cons 8 [] (.cons 9 [] (.cons 10 [4, 8] (.cons 11 [] (.cons 12 [] (.cons 13 [] (.cons 14 [] (.cons 15 [] .nil)))))))))))))))))] Tryz.func110 rfl rfl fun E hE => ?_
  have hc := hs.cap
  have htop := hs.top
  repeat' ((fail_if_success with_reducible refine Stop.mk ?_);(conv=>whnf);with_reducible first|refine br_f ?_|refine br_n (fun h=>?_) fun h=>?_|refine drw (by kernel_rfl) ?_|refine stop ?_)
  all_goals refine Stop.mk ?_
  · obtain rfl : e = 0 := by omega
    refine ⟨⟨by omega, by omega⟩, fun A' hA' => ?_⟩
    rw [Int.toNat_natCast] at hA' ⊢
    have hs' := slB_drop hs a ha hA'
    rw [show bs.length - a = (bs.drop a).length by simp]
    repeat' ((fail_if_success with_reducible refine Stop.mk ?_);(conv=>whnf);with_reducible refine stop ?_)
    all_goals refine Stop.mk ?_
    refine hF rfl E _ _ _ hs' fun T r why y1 y2 G' hp hg => ?_
    have hr' := hr r why y1 y2 G' hp
    repeat' ((fail_if_success with_reducible refine Stop.mk ?_);(conv=>whnf);with_reducible first|refine br_n (fun h=>?_) fun h=>?_|refine stop ?_)
    all_goals refine Stop.mk ?_
    · have hw : IntKind.i64.wrap ((a : Int) + (r : Int)) = ((a + r : Nat) : Int) := by have := hr' (by omega); rw [i64_in (by omega) (by omega)]; simp
      rw [hw]
      obtain rfl : why = 0 := by omega
      exact fin_all ⟨rfl, .inr ⟨rfl, r, 0, y1, y2, hp, by rw [if_pos rfl]; try rfl⟩⟩
    · exact fin_all ⟨rfl, .inr ⟨rfl, r, why, y1, y2, hp, by rw [if_neg (by assumption)]; try rfl⟩⟩
  · exact fin_all ⟨rfl, .inl ⟨by assumption, rfl, rfl⟩⟩

/-- What a read comes to, 3 captured. -/
def ReadP3 (A : Option Addr) (bs : List Int) (c a : Nat) (e : Int) (x1 : Ob) (x2 : Ob) (x3 : Ob) (G : Gh) (PF : Nat → Int → Ob → Ob → Ob → Gh → Prop) (H' : List Ob) (G' : Gh) : Prop :=
  (e ≠ 0 ∧ H' = [curO A bs.length c a e, x1, x2, x3] ∧ G' = G) ∨
  (e = 0 ∧ ∃ r why y1 y2 y3, PF r why y1 y2 y3 G' ∧ H' = [curO A bs.length c (if why = 0 then ((a + r : Nat) : Int) else a) why, y1, y2, y3])
set_option maxHeartbeats 8000000 in
theorem read_fn3 (G : Gh) (A : Option Addr) (bs : List Int) (c a : Nat) (e : Int) (F : FuncId) (x1 : Ob) (x2 : Ob) (x3 : Ob) (PF : Nat → Int → Ob → Ob → Ob → Gh → Prop) (hs : SlB G A c bs) (ha : a ≤ bs.length)
    (hr : ∀ r why y1 y2 y3 G', PF r why y1 y2 y3 G' → why = 0 → a + r ≤ bs.length)
    (hF : e = 0 → ∀ (E : Env) (fr : List SV) (A' : Option Addr) (K : List Nat → SV → St → Prop), SlB G A' (c - a) (bs.drop a) →
      (∀ T r why y1 y2 y3 G', PF r why y1 y2 y3 G' → Ghe G G' → K T (.tup [.v (.int .i64 (r : Nat)), .v (.int .i64 why)]) ⟨fr, [curO A bs.length c a 0, y1, y2, y3], G'⟩) →
      CallVC Tryz.prog E F (.v (.slice A' (bs.drop a).length (c - a)) :: [.p 1 0, .p 2 0, .p 3 0]) ⟨fr, [curO A bs.length c a 0, x1, x2, x3], G⟩ K) :
    Ct Tryz.prog 110 [.p 0 0, .f (.func F) [] [.p 1 0, .p 2 0, .p 3 0]] [curO A bs.length c a e, x1, x2, x3] G fun sv H' G' => sv = .tup [] ∧ ReadP3 A bs c a e x1 x2 x3 G PF H' G' := by
  refine fn_of follows [(1, (.cons 0 [] (.cons 1 [] (.cons 2 [] (.cons 3 [] (.cons 4 [] (.cons 5 [] (.cons 6 [] (.cons 7 [] (.cons 8 [] (.cons 9 [] (.cons 10 [4, 8] (.cons 11 [] (.cons 12 [] (.cons 13 [] (.cons 14 [] (.cons 15 [] .nil)))))))))))))))))] Tryz.func110 rfl rfl fun E hE => ?_
  have hc := hs.cap
  have htop := hs.top
  repeat' ((fail_if_success with_reducible refine Stop.mk ?_);(conv=>whnf);with_reducible first|refine br_f ?_|refine br_n (fun h=>?_) fun h=>?_|refine drw (by kernel_rfl) ?_|refine stop ?_)
  all_goals refine Stop.mk ?_
  · obtain rfl : e = 0 := by omega
    refine ⟨⟨by omega, by omega⟩, fun A' hA' => ?_⟩
    rw [Int.toNat_natCast] at hA' ⊢
    have hs' := slB_drop hs a ha hA'
    rw [show bs.length - a = (bs.drop a).length by simp]
    repeat' ((fail_if_success with_reducible refine Stop.mk ?_);(conv=>whnf);with_reducible refine stop ?_)
    all_goals refine Stop.mk ?_
    refine hF rfl E _ _ _ hs' fun T r why y1 y2 y3 G' hp hg => ?_
    have hr' := hr r why y1 y2 y3 G' hp
    repeat' ((fail_if_success with_reducible refine Stop.mk ?_);(conv=>whnf);with_reducible first|refine br_n (fun h=>?_) fun h=>?_|refine stop ?_)
    all_goals refine Stop.mk ?_
    · have hw : IntKind.i64.wrap ((a : Int) + (r : Int)) = ((a + r : Nat) : Int) := by have := hr' (by omega); rw [i64_in (by omega) (by omega)]; simp
      rw [hw]
      obtain rfl : why = 0 := by omega
      exact fin_all ⟨rfl, .inr ⟨rfl, r, 0, y1, y2, y3, hp, by rw [if_pos rfl]; try rfl⟩⟩
    · exact fin_all ⟨rfl, .inr ⟨rfl, r, why, y1, y2, y3, hp, by rw [if_neg (by assumption)]; try rfl⟩⟩
  · exact fin_all ⟨rfl, .inl ⟨by assumption, rfl, rfl⟩⟩
end Go.Proofs.YtchebkpcgglllaaGreat.Cu

namespace Go.Proofs.YtchebkpcgglllaaGreat.Cu
open Go Go.SX Go.Proofs.YtchebkpcgglllaaGreat.VT
set_option maxRecDepth 100000
set_option linter.unusedVariables false

theorem vdec_form {l : List Int} (hb : isB l) : (∃ e : Int, (e = 1 ∨ e = 3) ∧ vdec 0 l = (0, 0, e)) ∨ (∃ n m : Nat, vdec 0 l = ((n : Int), (m : Int), 0) ∧ n < 18446744073709551616 ∧ 0 < m ∧ m ≤ l.length ∧ m ≤ 10 ∧ l.take m = vput 9 n) := by
  rcases vdec_spec l 0 (by omega) hb with h | ⟨n, m, h1, h2, _, h3, h4, h5, h6⟩
  · exact .inl h
  · exact .inr ⟨n, m, by simpa using h1, by simpa using h2, h3, h4, by omega, by simpa using h6⟩
theorem isB_drop {l : List Int} (h : isB l) (k : Nat) : isB (l.drop k) := fun x hx => h x (List.mem_of_mem_drop hx)
theorem isB_take {l : List Int} (h : isB l) (k : Nat) : isB (l.take k) := fun x hx => h x (List.mem_of_mem_take hx)

/-! ### Uint -/
def whyU (most : Int) (d : Int × Int × Int) : Int := if d.2.2 = 0 ∧ d.1 > most then 6 else d.2.2
def u64O (x : Int) : Ob := .cells 116 [.v (.int .u64 x)]
theorem uint1_fn (G : Gh) (A : Option Addr) (c : Nat) (bs : List Int) (most : Int) (hb : isB bs) (hs : SlB G A c bs) :
    Ct Tryz.prog 112 [.v (.slice A bs.length c), .p 0 0, .p 1 0] [u64O most, u64O 0] G fun sv H' G' =>
      sv = .tup [.v (.int .i64 (vdec 0 bs).2.1), .v (.int .i64 (whyU most (vdec 0 bs)))] ∧ H' = [u64O most, u64O (if whyU most (vdec 0 bs) = 0 then (vdec 0 bs).1 else 0)] ∧ G' = G := by
  refine fn_of follows [] Tryz.func112 rfl rfl fun E hE => ?_
  repeat' ((fail_if_success with_reducible refine Stop.mk ?_);(conv=>whnf);with_reducible refine stop ?_)
  all_goals refine Stop.mk ?_
  refine call_fn [] (get_fn G A c bs hb hs) rfl trivial (by decide) ?_
  rintro sv H' G' ⟨rfl, rfl, rfl⟩ _
  refine ⟨Nat.zero_le _, ?_⟩
  generalize hd : vdec 0 bs = d
  unfold getR
  rw [hd]
  repeat' ((fail_if_success with_reducible refine Stop.mk ?_);(conv=>whnf);with_reducible first|refine br_f ?_|refine br_d (fun h=>?_) fun h=>?_|refine br_e (fun h=>?_) fun h=>?_|refine stop ?_)
  all_goals refine Stop.mk ?_
  all_goals try (exfalso; omega)
  · have hw : whyU most d = 6 := if_pos (by omega)
    exact fin_all ⟨by rw [hw], by rw [hw]; try rfl, rfl⟩
  · have hw : whyU most d = d.2.2 := if_neg (by omega)
    have h2 : d.2.2 = 0 := by assumption
    exact fin_all ⟨by rw [hw], by rw [hw, if_pos h2]; try rfl, rfl⟩
  · have hw : whyU most d = d.2.2 := if_neg (by omega)
    have h2 : d.2.2 ≠ 0 := by assumption
    exact fin_all ⟨by rw [hw], by rw [hw, if_neg h2]; try rfl, rfl⟩
/-- The cursor behind Uint: what is read, the offset, the error. -/
def cUint (bs : List Int) (a : Nat) (e : Int) (most : Int) : Int × Nat × Int :=
  if e ≠ 0 then (0, a, e)
  else if whyU most (vdec 0 (bs.drop a)) = 0 then ((vdec 0 (bs.drop a)).1, a + (vdec 0 (bs.drop a)).2.1.toNat, 0)
  else (0, a, whyU most (vdec 0 (bs.drop a)))
theorem uint_fn (G : Gh) (A : Option Addr) (bs : List Int) (c a : Nat) (e most : Int) (hb : isB bs) (hs : SlB G A c bs) (ha : a ≤ bs.length) :
    Ct Tryz.prog 64 [.p 0 0, .v (.int .u64 most)] [curO A bs.length c a e] G fun sv H' G' =>
      sv = .v (.int .u64 (cUint bs a e most).1) ∧ H' = [curO A bs.length c (cUint bs a e most).2.1 (cUint bs a e most).2.2] ∧ G' = G := by
  refine fn_of follows [] Tryz.func64 rfl rfl fun E hE => ?_
  repeat' ((fail_if_success with_reducible refine Stop.mk ?_);(conv=>whnf);with_reducible refine stop ?_)
  all_goals refine Stop.mk ?_
  have hbd := isB_drop hb a
  refine call_fn [0, 1, 2] (read_fn2 G A bs c a e 112 (u64O most) (u64O 0)
    (fun r why y1 y2 G' => (r : Int) = (vdec 0 (bs.drop a)).2.1 ∧ why = whyU most (vdec 0 (bs.drop a)) ∧ y1 = u64O most ∧ y2 = u64O (if whyU most (vdec 0 (bs.drop a)) = 0 then (vdec 0 (bs.drop a)).1 else 0) ∧ G' = G) hs ha ?_ ?_) rfl ⟨rfl, rfl, rfl, trivial⟩ (by decide) ?_
  · rintro r why y1 y2 G' ⟨h1, h2, _⟩ h0
    have hl : (bs.drop a).length = bs.length - a := by simp
    rcases vdec_form hbd with ⟨x, hx, h⟩ | ⟨n, m, h, h3, h4, h5, _⟩ <;> rw [h] at h1 <;> simp at h1 <;> omega
  · intro he E fr A' K hs' hK
    refine call_fn [1, 2] (uint1_fn G A' (c - a) (bs.drop a) most hbd hs') rfl ⟨rfl, rfl, trivial⟩ (by decide) ?_
    rintro sv H' G' ⟨rfl, rfl, rfl⟩ hg
    obtain ⟨m, hm⟩ : ∃ m : Nat, (m : Int) = (vdec 0 (bs.drop a)).2.1 := by
      rcases vdec_form hbd with ⟨x, hx, h⟩ | ⟨n, m, h, _⟩
      · exact ⟨0, by rw [h]; try rfl⟩
      · exact ⟨m, by rw [h]⟩
    rw [← hm]
    exact ⟨by simp, callEnd_cells rfl (hK _ m _ _ _ _ ⟨hm, rfl, rfl, rfl, rfl⟩ hg)⟩
  · rintro sv H' G' ⟨rfl, hR⟩ hg
    rcases hR with ⟨he, rfl, rfl⟩ | ⟨rfl, r, why, y1, y2, ⟨h1, rfl, rfl, rfl, rfl⟩, rfl⟩
    · refine ⟨by simp, ?_⟩
      repeat' ((fail_if_success with_reducible refine Stop.mk ?_);(conv=>whnf);with_reducible refine stop ?_)
      all_goals refine Stop.mk ?_
      refine fin_id hE 1 rfl rfl rfl rfl ⟨?_, ?_, rfl⟩ <;> unfold cUint <;> rw [if_pos he]
      rfl
    · refine ⟨by simp, ?_⟩
      repeat' ((fail_if_success with_reducible refine Stop.mk ?_);(conv=>whnf);with_reducible refine stop ?_)
      all_goals refine Stop.mk ?_
      by_cases hw : whyU most (vdec 0 (bs.drop a)) = 0
      · have hc : cUint bs a 0 most = ((vdec 0 (bs.drop a)).1, a + (vdec 0 (bs.drop a)).2.1.toNat, 0) := by
          unfold cUint; rw [if_neg (by decide), if_pos hw]
        refine fin_id hE 1 rfl rfl rfl rfl ⟨?_, ?_, rfl⟩ <;> rw [hc, if_pos hw]
        show [curO A bs.length c _ _] = _
        rw [← h1, Int.toNat_natCast, if_pos hw, hw]
      · have hc : cUint bs a 0 most = (0, a, whyU most (vdec 0 (bs.drop a))) := by
          unfold cUint; rw [if_neg (by decide), if_neg hw]
        refine fin_id hE 1 rfl rfl rfl rfl ⟨?_, ?_, rfl⟩ <;> rw [hc, if_neg hw]
        show [curO A bs.length c _ _] = _
        rw [if_neg hw]
end Go.Proofs.YtchebkpcgglllaaGreat.Cu

namespace Go.Proofs.YtchebkpcgglllaaGreat.Cu
open Go Go.SX Go.Proofs.YtchebkpcgglllaaGreat.VT
set_option maxRecDepth 100000
set_option linter.unusedVariables false

def u8O (x : Int) : Ob := .cells 5 [.v (.int .u8 x)]
def intO (x : Int) : Ob := .cells 3 [.v (.int .i64 x)]
theorem byte1_fn (G : Gh) (A : Option Addr) (c : Nat) (bs : List Int) (x : Int) (hs : SlB G A c bs) :
    Ct Tryz.prog 111 [.v (.slice A bs.length c), .p 0 0] [u8O x] G fun sv H' G' =>
      sv = .tup [.v (.int .i64 ((if bs.length = 0 then 0 else 1 : Nat) : Int)), .v (.int .i64 (if bs.length = 0 then 1 else 0))] ∧ H' = [u8O (if bs.length = 0 then x else bs.getD 0 0)] ∧ G' = G := by
  refine fn_of follows [] Tryz.func111 rfl rfl fun E hE => ?_
  repeat' ((fail_if_success with_reducible refine Stop.mk ?_);(conv=>whnf);with_reducible first|refine br_e (fun h=>?_) fun h=>?_|refine stop ?_)
  all_goals refine Stop.mk ?_
  · exact fin_all ⟨by rw [if_pos (by omega), if_pos (by omega)]; try rfl, by rw [if_pos (by omega)], rfl⟩
  · refine ⟨⟨by omega, by omega⟩, _, hs, fun ad had hadr => ?_⟩
    repeat' ((fail_if_success with_reducible refine Stop.mk ?_);(conv=>whnf);with_reducible refine stop ?_)
    all_goals refine Stop.mk ?_
    refine ⟨_, el1 had (by omega), ?_⟩
    repeat' ((fail_if_success with_reducible refine Stop.mk ?_);(conv=>whnf);with_reducible refine stop ?_)
    all_goals refine Stop.mk ?_
    exact fin_all ⟨by rw [if_neg (by omega), if_neg (by omega)]; try rfl, by rw [if_neg (by omega)]; try rfl, rfl⟩
/-- The cursor behind Byte. -/
def cByte (bs : List Int) (a : Nat) (e : Int) : Int × Nat × Int :=
  if e ≠ 0 then (0, a, e) else if bs.length = a then (0, a, 1) else (bs.getD a 0, a + 1, 0)
theorem byte_fn (G : Gh) (A : Option Addr) (bs : List Int) (c a : Nat) (e : Int) (hb : isB bs) (hs : SlB G A c bs) (ha : a ≤ bs.length) :
    Ct Tryz.prog 61 [.p 0 0] [curO A bs.length c a e] G fun sv H' G' =>
      sv = .v (.int .u8 (cByte bs a e).1) ∧ H' = [curO A bs.length c (cByte bs a e).2.1 (cByte bs a e).2.2] ∧ G' = G := by
  refine fn_of follows [] Tryz.func61 rfl rfl fun E hE => ?_
  repeat' ((fail_if_success with_reducible refine Stop.mk ?_);(conv=>whnf);with_reducible refine stop ?_)
  all_goals refine Stop.mk ?_
  have hl : (bs.drop a).length = bs.length - a := by simp
  refine call_fn [0, 1] (read_fn1 G A bs c a e 111 (u8O 0)
    (fun r why y1 G' => r = (if bs.length = a then 0 else 1) ∧ why = (if bs.length = a then 1 else 0) ∧ y1 = u8O (if bs.length = a then 0 else bs.getD a 0) ∧ G' = G) hs ha ?_ ?_) rfl ⟨rfl, rfl, trivial⟩ (by decide) ?_
  · rintro r why y1 G' ⟨h1, h2, _⟩ h0
    split at h1 <;> split at h2 <;> omega
  · intro he E fr A' K hs' hK
    refine call_fn [1] (byte1_fn G A' (c - a) (bs.drop a) 0 hs') rfl ⟨rfl, trivial⟩ (by decide) ?_
    rintro sv H' G' ⟨rfl, rfl, rfl⟩ hg
    refine ⟨by simp, callEnd_cells rfl (hK _ _ _ _ _ ⟨?_, ?_, ?_, rfl⟩ hg)⟩
    · rw [hl]; by_cases h : bs.length = a
      · rw [if_pos h, if_pos (by omega)]
      · rw [if_neg h, if_neg (by omega)]
    · rw [hl]; by_cases h : bs.length = a
      · rw [if_pos h, if_pos (by omega)]
      · rw [if_neg h, if_neg (by omega)]
    · show u8O _ = _
      rw [hl]; by_cases h : bs.length = a
      · rw [if_pos h, if_pos (by omega)]
      · rw [if_neg h, if_neg (by omega)]; simp [List.getD_eq_getElem?_getD]
  · rintro sv H' G' ⟨rfl, hR⟩ hg
    rcases hR with ⟨he, rfl, rfl⟩ | ⟨rfl, r, why, y1, ⟨rfl, rfl, rfl, rfl⟩, rfl⟩
    · refine ⟨by simp, ?_⟩
      repeat' ((fail_if_success with_reducible refine Stop.mk ?_);(conv=>whnf);with_reducible refine stop ?_)
      all_goals refine Stop.mk ?_
      have hc : cByte bs a e = (0, a, e) := if_pos he
      refine fin_id hE 1 rfl rfl rfl rfl ⟨?_, ?_, rfl⟩ <;> rw [hc]
      rfl
    · refine ⟨by simp, ?_⟩
      repeat' ((fail_if_success with_reducible refine Stop.mk ?_);(conv=>whnf);with_reducible refine stop ?_)
      all_goals refine Stop.mk ?_
      by_cases hw : bs.length = a
      · have hc : cByte bs a 0 = (0, a, 1) := by unfold cByte; rw [if_neg (by decide), if_pos hw]
        refine fin_id hE 1 rfl rfl rfl rfl ⟨?_, ?_, rfl⟩ <;> rw [hc]
        · rw [if_pos hw]
        · show [curO A bs.length c _ _] = _
          rw [if_pos hw, if_pos hw, if_neg (by decide)]
      · have hc : cByte bs a 0 = (bs.getD a 0, a + 1, 0) := by unfold cByte; rw [if_neg (by decide), if_neg hw]
        refine fin_id hE 1 rfl rfl rfl rfl ⟨?_, ?_, rfl⟩ <;> rw [hc]
        · rw [if_neg hw]
        · show [curO A bs.length c _ _] = _
          rw [if_neg hw, if_neg hw, if_pos rfl]
theorem end_fn (G : Gh) (A : Option Addr) (n c : Nat) (a e : Int) (h0 : 0 ≤ a) (h1 : a ≤ n) (hn : n ≤ 9223372036854775807) :
    Ct Tryz.prog 67 [.p 0 0] [curO A n c a e] G fun sv H' G' => sv = .tup [] ∧ H' = [curO A n c a (if leftN n a e > 0 then 2 else e)] ∧ G' = G := by
  refine fn_of follows [] Tryz.func67 rfl rfl fun E hE => ?_
  repeat' ((fail_if_success with_reducible refine Stop.mk ?_);(conv=>whnf);with_reducible refine stop ?_)
  all_goals refine Stop.mk ?_
  refine call_fn [0] (left_fn G A n c a e h0 h1 hn) rfl ⟨rfl, trivial⟩ (by decide) ?_
  rintro sv H' G' ⟨rfl, rfl, rfl⟩ hg
  refine ⟨by simp, ?_⟩
  repeat' ((fail_if_success with_reducible refine Stop.mk ?_);(conv=>whnf);with_reducible first|refine br_d (fun h=>?_) fun h=>?_|refine stop ?_)
  all_goals refine Stop.mk ?_
  · refine call_fn [0] (fail_fn _ A n c a e 2) rfl ⟨rfl, trivial⟩ (by decide) ?_
    rintro sv H' G' ⟨rfl, rfl, rfl⟩ hg
    refine ⟨by simp, ?_⟩
    repeat' ((fail_if_success with_reducible refine Stop.mk ?_);(conv=>whnf);with_reducible refine stop ?_)
    all_goals refine Stop.mk ?_
    refine fin_all ⟨rfl, ?_, rfl⟩
    show [curO A n c a (failE e 2)] = _
    rw [if_pos (by assumption)]
    have he : e = 0 := by have : leftN n a e > 0 := by assumption
                          unfold leftN at this; split at this <;> omega
    rw [failE, if_pos he]
  · refine fin_all ⟨rfl, ?_, rfl⟩
    rw [if_neg (by assumption)]; rfl
end Go.Proofs.YtchebkpcgglllaaGreat.Cu

namespace Go.Proofs.YtchebkpcgglllaaGreat.Cu
open Go Go.SX Go.Proofs.YtchebkpcgglllaaGreat.VT
set_option maxRecDepth 100000
set_option linter.unusedVariables false

/-- What Count says of a decoded number. -/
def whyC (most size len : Int) (d : Int × Int × Int) : Int :=
  if d.2.2 ≠ 0 then d.2.2 else if d.1 > most then 6 else if size > 0 ∧ d.1 > (len - d.2.1) / size then 1 else 0
def resC (most size : Int) (bs : List Int) : Int × Int × Int :=
  if most < 0 ∨ size < 0 then (0, 0, 32)
  else if whyC most size bs.length (vdec 0 bs) = 0 then ((vdec 0 bs).1, (vdec 0 bs).2.1, 0) else (0, 0, whyC most size bs.length (vdec 0 bs))
set_option maxHeartbeats 8000000 in
theorem count1_fn (G : Gh) (A : Option Addr) (c : Nat) (bs : List Int) (most size : Int) (hb : isB bs) (hs : SlB G A c bs) (hm : most ≤ 9223372036854775807) (hz : size ≤ 9223372036854775807) :
    Ct Tryz.prog 123 [.v (.slice A bs.length c), .p 0 0, .p 1 0, .p 2 0] [intO most, intO size, intO 0] G fun sv H' G' =>
      sv = .tup [.v (.int .i64 (resC most size bs).2.1), .v (.int .i64 (resC most size bs).2.2)] ∧ H' = [intO most, intO size, intO (resC most size bs).1] ∧ G' = G := by
  have hc := hs.cap
  have htop := hs.top
  refine fn_of follows [] Tryz.func123 rfl rfl fun E hE => ?_
  repeat' ((fail_if_success with_reducible refine Stop.mk ?_);(conv=>whnf);with_reducible first|refine br_t ?_|refine br_d (fun h=>?_) fun h=>?_|refine stop ?_)
  all_goals refine Stop.mk ?_
  · have hr : resC most size bs = (0, 0, 32) := if_pos (by omega)
    exact fin_all ⟨by rw [hr], by rw [hr], rfl⟩
  · have hr : resC most size bs = (0, 0, 32) := if_pos (by omega)
    exact fin_all ⟨by rw [hr], by rw [hr], rfl⟩
  refine call_fn [] (get_fn G A c bs hb hs) rfl trivial (by decide) ?_
  rintro sv H' G' ⟨rfl, rfl, rfl⟩ _
  refine ⟨Nat.zero_le _, ?_⟩
  have hd0 : 0 ≤ (vdec 0 bs).1 ∧ (vdec 0 bs).1 < 18446744073709551616 ∧ 0 ≤ (vdec 0 bs).2.1 ∧ (vdec 0 bs).2.1 ≤ bs.length := by
    rcases vdec_form hb with ⟨x, hx, h⟩ | ⟨n, m, h, h3, h4, h5, _⟩ <;> rw [h] <;> simp <;> omega
  have hres : ∀ y, whyC most size bs.length (vdec 0 bs) = y → resC most size bs = if y = 0 then ((vdec 0 bs).1, (vdec 0 bs).2.1, 0) else (0, 0, y) := by
    intro y hy; subst hy; unfold resC; rw [if_neg (by omega)]
  unfold getR
  generalize vdec 0 bs = d at *
  repeat' ((fail_if_success with_reducible refine Stop.mk ?_);(conv=>whnf);with_reducible first|refine br_f ?_|refine br_d (fun h=>?_) fun h=>?_|refine br_n (fun h=>?_) fun h=>?_|refine stop ?_)
  all_goals refine Stop.mk ?_
  · have hr := hres 6 (by unfold whyC; rw [IntKind.wrap_u64] at *; rw [if_neg (by omega), if_pos (by omega)])
    exact fin_all ⟨by rw [hr]; try rfl, by rw [hr]; try rfl, rfl⟩
  · refine ⟨by omega, ?_⟩
    have hlen : IntKind.i64.wrap ((bs.length : Int) - d.2.1) = bs.length - d.2.1 := i64_in (by omega) (by omega)
    rw [hlen, Int.tdiv_eq_ediv_of_nonneg (by omega)]
    have hq0 : 0 ≤ ((bs.length : Int) - d.2.1) / size := Int.ediv_nonneg (by omega) (by omega)
    have hq1 : ((bs.length : Int) - d.2.1) / size ≤ (bs.length : Int) - d.2.1 := Int.ediv_le_self _ (by omega)
    have hq : IntKind.u64.wrap (IntKind.i64.wrap (((bs.length : Int) - d.2.1) / size)) = ((bs.length : Int) - d.2.1) / size := by
      rw [i64_in (by omega) (by omega), u64_in (by omega) (by omega)]
    repeat' ((fail_if_success with_reducible refine Stop.mk ?_);(conv=>whnf);with_reducible first|refine br_d (fun h=>?_) fun h=>?_|refine stop ?_)
    all_goals refine Stop.mk ?_
    · have hr := hres 1 (by unfold whyC; rw [IntKind.wrap_u64] at *; rw [if_neg (by omega), if_neg (by omega), if_pos (by omega)])
      exact fin_all ⟨by rw [hr]; try rfl, by rw [hr]; try rfl, rfl⟩
    · have hr := hres 0 (by unfold whyC; rw [IntKind.wrap_u64] at *; rw [if_neg (by omega), if_neg (by omega), if_neg (by omega)])
      rw [i64_in (n := d.1) (by omega) (by rw [IntKind.wrap_u64] at *; omega)]
      exact fin_all ⟨by rw [hr]; try rfl, by rw [hr]; try rfl, rfl⟩
  · have hr := hres 0 (by unfold whyC; rw [IntKind.wrap_u64] at *; rw [if_neg (by omega), if_neg (by omega), if_neg (by omega)])
    rw [i64_in (n := d.1) (by omega) (by rw [IntKind.wrap_u64] at *; omega)]
    exact fin_all ⟨by rw [hr]; try rfl, by rw [hr]; try rfl, rfl⟩
  · have hne : d.2.2 ≠ 0 := by assumption
    have hr := hres d.2.2 (by unfold whyC; rw [if_pos hne])
    rw [if_neg hne] at hr
    exact fin_all ⟨by rw [hr], by rw [hr]; try rfl, rfl⟩
/-- The cursor behind Count. -/
def cCount (bs : List Int) (a : Nat) (e : Int) (most size : Int) : Int × Nat × Int :=
  if e ≠ 0 then (0, a, e) else
    ((resC most size (bs.drop a)).1, a + (resC most size (bs.drop a)).2.1.toNat, (resC most size (bs.drop a)).2.2)
theorem resC_form {l : List Int} (hb : isB l) (most size : Int) : (∃ e : Int, e ≠ 0 ∧ resC most size l = (0, 0, e)) ∨
    (∃ n m : Nat, 0 ≤ most ∧ 0 ≤ size ∧ resC most size l = ((n : Int), (m : Int), 0) ∧ vdec 0 l = ((n : Int), (m : Int), 0) ∧ (n : Int) ≤ most ∧ (size > 0 → (n : Int) ≤ ((l.length : Int) - m) / size) ∧ m ≤ l.length ∧ 0 < m) := by
  unfold resC
  by_cases h : most < 0 ∨ size < 0
  · rw [if_pos h]; exact .inl ⟨32, by decide, rfl⟩
  · rw [if_neg h]
    by_cases hw : whyC most size l.length (vdec 0 l) = 0
    · rw [if_pos hw]
      rcases vdec_form hb with ⟨x, hx, h0⟩ | ⟨n, m, h0, h3, h4, h5, _⟩
      · rw [h0] at hw; unfold whyC at hw; rw [if_pos (by simp; omega)] at hw; simp only at hw; omega
      · refine .inr ⟨n, m, by omega, by omega, by rw [h0], h0, ?_, fun hs => ?_, h5, h4⟩ <;>
          (rw [h0] at hw; unfold whyC at hw; rw [if_neg (by simp)] at hw; simp only at hw; split at hw <;> try omega)
    · rw [if_neg hw]; exact .inl ⟨_, hw, rfl⟩
theorem count_fn (G : Gh) (A : Option Addr) (bs : List Int) (c a : Nat) (e most size : Int) (hb : isB bs) (hs : SlB G A c bs) (ha : a ≤ bs.length) (hm : most ≤ 9223372036854775807) (hz : size ≤ 9223372036854775807) :
    Ct Tryz.prog 77 [.p 0 0, .v (.int .i64 most), .v (.int .i64 size)] [curO A bs.length c a e] G fun sv H' G' =>
      sv = .v (.int .i64 (cCount bs a e most size).1) ∧ H' = [curO A bs.length c (cCount bs a e most size).2.1 (cCount bs a e most size).2.2] ∧ G' = G := by
  refine fn_of follows [] Tryz.func77 rfl rfl fun E hE => ?_
  repeat' ((fail_if_success with_reducible refine Stop.mk ?_);(conv=>whnf);with_reducible refine stop ?_)
  all_goals refine Stop.mk ?_
  have hbd := isB_drop hb a
  have hl : (bs.drop a).length = bs.length - a := by simp
  have hform := resC_form hbd most size
  refine call_fn [0, 1, 2, 3] (read_fn3 G A bs c a e 123 (intO most) (intO size) (intO 0)
    (fun r why y1 y2 y3 G' => (r : Int) = (resC most size (bs.drop a)).2.1 ∧ why = (resC most size (bs.drop a)).2.2 ∧ y1 = intO most ∧ y2 = intO size ∧ y3 = intO (resC most size (bs.drop a)).1 ∧ G' = G) hs ha ?_ ?_) rfl ⟨rfl, rfl, rfl, rfl, trivial⟩ (by decide) ?_
  · rintro r why y1 y2 y3 G' ⟨h1, h2, _⟩ h0
    rcases hform with ⟨x, hx, h⟩ | ⟨n, m, _, _, h, _, _, _, h5, _⟩ <;> rw [h] at h1 <;> simp at h1 <;> omega
  · intro he E fr A' K hs' hK
    refine call_fn [1, 2, 3] (count1_fn G A' (c - a) (bs.drop a) most size hbd hs' hm hz) rfl ⟨rfl, rfl, rfl, trivial⟩ (by decide) ?_
    rintro sv H' G' ⟨rfl, rfl, rfl⟩ hg
    obtain ⟨m, hm⟩ : ∃ m : Nat, (m : Int) = (resC most size (bs.drop a)).2.1 := by
      rcases hform with ⟨x, hx, h⟩ | ⟨n, m, _, _, h, _⟩
      · exact ⟨0, by rw [h]; try rfl⟩
      · exact ⟨m, by rw [h]⟩
    rw [← hm]
    exact ⟨by simp, callEnd_cells rfl (hK _ m _ _ _ _ _ ⟨hm, rfl, rfl, rfl, rfl, rfl⟩ hg)⟩
  · rintro sv H' G' ⟨rfl, hR⟩ hg
    rcases hR with ⟨he, rfl, rfl⟩ | ⟨rfl, r, why, y1, y2, y3, ⟨h1, rfl, rfl, rfl, rfl, rfl⟩, rfl⟩
    · refine ⟨by simp, ?_⟩
      repeat' ((fail_if_success with_reducible refine Stop.mk ?_);(conv=>whnf);with_reducible refine stop ?_)
      all_goals refine Stop.mk ?_
      have hc : cCount bs a e most size = (0, a, e) := if_pos he
      refine fin_id hE 1 rfl rfl rfl rfl ⟨?_, ?_, rfl⟩ <;> rw [hc]
      rfl
    · refine ⟨by simp, ?_⟩
      repeat' ((fail_if_success with_reducible refine Stop.mk ?_);(conv=>whnf);with_reducible refine stop ?_)
      all_goals refine Stop.mk ?_
      have hc : cCount bs a 0 most size = ((resC most size (bs.drop a)).1, a + (resC most size (bs.drop a)).2.1.toNat, (resC most size (bs.drop a)).2.2) := if_neg (by decide)
      refine fin_id hE 1 rfl rfl rfl rfl ⟨?_, ?_, rfl⟩ <;> rw [hc]
      show [curO A bs.length c _ _] = _
      rw [← h1, Int.toNat_natCast]
      by_cases hne : (resC most size (bs.drop a)).2.2 = 0
      · rw [if_pos hne]
      · rw [if_neg hne]
        have h0 : (resC most size (bs.drop a)).2.1 = 0 := by
          rcases hform with ⟨x, hx, h⟩ | ⟨n, m, _, _, h, _⟩
          · rw [h]
          · rw [h] at hne; simp at hne
        obtain rfl : r = 0 := by omega
        rfl

/-! ### Bytes -/
def slO (A : Option Addr) (n c : Nat) : Ob := .cells 22 [.v (.slice A n c)]
theorem bytes1_fn (G : Gh) (A : Option Addr) (c : Nat) (bs : List Int) (n : Int) (hs : SlB G A c bs) (hlen : bs.length ≤ 140737488355328) (hnn : n ≤ 9223372036854775807) :
    Ct Tryz.prog 114 [.v (.slice A bs.length c), .p 0 0, .p 1 0] [intO n, slO none 0 0] G fun sv H' G' =>
      if n < 0 then sv = .tup [.v (.int .i64 0), .v (.int .i64 32)] ∧ H' = [intO n, slO none 0 0] ∧ G' = G
      else if n > bs.length then sv = .tup [.v (.int .i64 0), .v (.int .i64 1)] ∧ H' = [intO n, slO none 0 0] ∧ G' = G
      else sv = .tup [.v (.int .i64 n), .v (.int .i64 0)] ∧ ∃ A' c', H' = [intO n, slO A' n.toNat c'] ∧ SlB G' A' c' (bs.take n.toNat) := by
  have hc := hs.cap
  have htop := hs.top
  refine fn_of follows [(5, (.cons 0 [] (.cons 1 [] (.cons 2 [] (.cons 3 [] (.cons 4 [0, 2] (.cons 5 [0, 2] .nil)))))))] Tryz.func114 rfl rfl fun E hE => ?_
  repeat' ((fail_if_success with_reducible refine Stop.mk ?_);(conv=>whnf);with_reducible first|refine br_d (fun h=>?_) fun h=>?_|refine drw (by kernel_rfl) ?_|refine stop ?_)
  all_goals refine Stop.mk ?_
  · exact fin_all (by rw [if_pos (by assumption)]; exact ⟨rfl, rfl, rfl⟩)
  · exact fin_all (by rw [if_neg (by omega), if_pos (by assumption)]; exact ⟨rfl, rfl, rfl⟩)
  · refine ⟨⟨by omega, by omega⟩, fun A' hA' => ?_⟩
    obtain rfl : A' = A := by rw [hA']; split; · rfl
                              cases A <;> simp [Addr.add]
    repeat' ((fail_if_success with_reducible refine Stop.mk ?_);(conv=>whnf);with_reducible refine stop ?_)
    all_goals refine Stop.mk ?_
    refine ⟨byts (bs.take n.toNat), slB_take hs n.toNat (by omega), (by show n.toNat * 1 ≤ _; omega), ?_⟩
    repeat' ((fail_if_success with_reducible refine Stop.mk ?_);(conv=>whnf);with_reducible refine stop ?_)
    all_goals refine Stop.mk ?_
    refine fin_done 2 rfl (byts_one _) fun A c G2 hg hsl => fin_id hE 2 rfl rfl rfl rfl ?_
    rw [if_neg (by assumption), if_neg (by assumption)]
    refine ⟨rfl, A, c, rfl, ?_⟩
    unfold SlB
    rw [List.length_take, Nat.min_eq_left (by omega)]
    exact hsl
end Go.Proofs.YtchebkpcgglllaaGreat.Cu

namespace Go.Proofs.YtchebkpcgglllaaGreat.Cu
open Go Go.SX Go.Proofs.YtchebkpcgglllaaGreat.VT
set_option maxRecDepth 100000
set_option linter.unusedVariables false

theorem slB_nil (G : Gh) : SlB G none 0 [] := ⟨rfl, Nat.le_refl _, by decide, fun ad h => by simp at h, fun _ => ⟨rfl, rfl⟩, fun v hv => by simp [byts] at hv⟩
/-- The cursor behind Bytes. -/
def cBytes (bs : List Int) (a : Nat) (e n : Int) : List Int × Nat × Int :=
  if e ≠ 0 then ([], a, e) else if n < 0 then ([], a, 32) else if n > ((bs.length - a : Nat) : Int) then ([], a, 1) else ((bs.drop a).take n.toNat, a + n.toNat, 0)
theorem bytes_fn (G : Gh) (A : Option Addr) (bs : List Int) (c a : Nat) (e n : Int) (hs : SlB G A c bs) (ha : a ≤ bs.length) (hlen : bs.length ≤ 140737488355328) (hn : n ≤ 9223372036854775807) :
    Ct Tryz.prog 66 [.p 0 0, .v (.int .i64 n)] [curO A bs.length c a e] G fun sv H' G' =>
      (∃ A' c', sv = .v (.slice A' (cBytes bs a e n).1.length c') ∧ SlB G' A' c' (cBytes bs a e n).1) ∧ H' = [curO A bs.length c (cBytes bs a e n).2.1 (cBytes bs a e n).2.2] := by
  refine fn_of follows [] Tryz.func66 rfl rfl fun E hE => ?_
  repeat' ((fail_if_success with_reducible refine Stop.mk ?_);(conv=>whnf);with_reducible refine stop ?_)
  all_goals refine Stop.mk ?_
  have hl : (bs.drop a).length = bs.length - a := by simp
  refine call_fn [0, 1, 2] (read_fn2 G A bs c a e 114 (intO n) (slO none 0 0)
    (fun r why y1 y2 G' => cBytes bs a 0 n = ((cBytes bs a 0 n).1, a + r, why) ∧ (why = 0 → a + r ≤ bs.length) ∧ y1 = intO n ∧ ∃ A' c', y2 = slO A' (cBytes bs a 0 n).1.length c' ∧ SlB G' A' c' (cBytes bs a 0 n).1) hs ha ?_ ?_) rfl ⟨rfl, rfl, rfl, trivial⟩ (by decide) ?_
  · rintro r why y1 y2 G' ⟨_, h2, _⟩ h0
    exact h2 h0
  · intro he E fr A' K hs' hK
    refine call_fn [1, 2] (bytes1_fn G A' (c - a) (bs.drop a) n hs' (by omega) hn) rfl ⟨rfl, rfl, trivial⟩ (by decide) ?_
    intro sv H' G' hp hg
    rw [hl] at hp
    split at hp
    · obtain ⟨rfl, rfl, rfl⟩ := hp
      have hc : cBytes bs a 0 n = ([], a, 32) := by unfold cBytes; rw [if_neg (by decide), if_pos (by assumption)]
      exact ⟨by simp, callEnd_cells rfl (hK _ 0 _ _ _ _ ⟨by rw [hc]; try rfl, fun h => by simp at h, rfl, none, 0, by rw [hc]; try rfl, by rw [hc]; exact slB_nil _⟩ hg)⟩
    split at hp
    · obtain ⟨rfl, rfl, rfl⟩ := hp
      have hc : cBytes bs a 0 n = ([], a, 1) := by unfold cBytes; rw [if_neg (by decide), if_neg (by assumption), if_pos (by assumption)]
      exact ⟨by simp, callEnd_cells rfl (hK _ 0 _ _ _ _ ⟨by rw [hc]; try rfl, fun h => by simp at h, rfl, none, 0, by rw [hc]; try rfl, by rw [hc]; exact slB_nil _⟩ hg)⟩
    · obtain ⟨rfl, A2, c2, rfl, hs2⟩ := hp
      have hc : cBytes bs a 0 n = ((bs.drop a).take n.toNat, a + n.toNat, 0) := by unfold cBytes; rw [if_neg (by decide), if_neg (by assumption), if_neg (by assumption)]
      have h1 : ((bs.drop a).take n.toNat).length = n.toNat := by rw [List.length_take, hl, Nat.min_eq_left (by omega)]
      have hnn : n = ((n.toNat : Nat) : Int) := by omega
      refine ⟨by simp, callEnd_cells rfl ?_⟩
      have := hK [1, 2] n.toNat 0 (intO n) (slO A2 n.toNat c2) G' ⟨by rw [hc], fun _ => by omega, rfl, A2, c2, by rw [hc, h1], by rw [hc]; exact hs2⟩ hg
      rw [← hnn] at this
      exact this
  · rintro sv H' G' ⟨rfl, hR⟩ hg
    rcases hR with ⟨he, rfl, rfl⟩ | ⟨rfl, r, why, y1, y2, ⟨h1, h2, rfl, A2, c2, rfl, h3⟩, rfl⟩
    · refine ⟨by simp, ?_⟩
      repeat' ((fail_if_success with_reducible refine Stop.mk ?_);(conv=>whnf);with_reducible refine stop ?_)
      all_goals refine Stop.mk ?_
      have hc : cBytes bs a e n = ([], a, e) := if_pos he
      refine fin_id hE 1 rfl rfl rfl rfl ⟨⟨none, 0, ?_, ?_⟩, ?_⟩ <;> rw [hc]
      · rfl
      · exact slB_nil _
      · rfl
    · refine ⟨by simp, ?_⟩
      repeat' ((fail_if_success with_reducible refine Stop.mk ?_);(conv=>whnf);with_reducible refine stop ?_)
      all_goals refine Stop.mk ?_
      refine fin_id hE 1 rfl rfl rfl rfl ⟨⟨A2, c2, rfl, h3⟩, ?_⟩
      show [curO A bs.length c _ _] = _
      rw [h1]
      by_cases hw : why = 0
      · rw [if_pos hw]
      · rw [if_neg hw]
        have h4 := congrArg (fun d => d.2.2) h1
        have h5 := congrArg (fun d => d.2.1) h1
        simp only at h4 h5
        unfold cBytes at h4 h5
        rw [if_neg (by decide)] at h4 h5
        split at h4 <;> rename_i hx
        · rw [if_pos hx] at h5; simp only at h5; rw [← h5]
        · rw [if_neg hx] at h5
          split at h4 <;> rename_i hy
          · rw [if_pos hy] at h5; simp only at h5; rw [← h5]
          · simp only at h4; omega
theorem new_fn (G : Gh) (A : Option Addr) (bs : List Int) (c : Nat) (hs : SlB G A c bs) (hlen : bs.length ≤ 140737488355328) :
    Ct Tryz.prog 60 [.v (.slice A bs.length c)] [] G fun sv H' G' => ∃ A' c', sv = .p 0 0 ∧ H' = [curO A' bs.length c' 0 0] ∧ SlB G' A' c' bs := by
  refine fn_of follows [] Tryz.func60 rfl rfl fun E hE => ?_
  repeat' ((fail_if_success with_reducible refine Stop.mk ?_);(conv=>whnf);with_reducible refine stop ?_)
  all_goals refine Stop.mk ?_
  refine ⟨_, hs, ⟨by show (0 + bs.length) * 1 ≤ _; omega, ?_⟩⟩
  repeat' ((fail_if_success with_reducible refine Stop.mk ?_);(conv=>whnf);with_reducible refine stop ?_)
  all_goals refine Stop.mk ?_
  refine fin_done 0 rfl (by simpa using byts_one bs) fun A2 c2 G2 hg hsl => fin_mk hE [1] (.p 0 0) [curO A2 bs.length c2 0 0] rfl ⟨?_, trivial⟩ rfl ⟨A2, c2, rfl, rfl, ?_⟩
  · show nth _ _ = _
    simp only [Nat.zero_add]
    rfl
  · have h := hsl
    simp only [Nat.zero_add, List.nil_append] at h
    exact h
end Go.Proofs.YtchebkpcgglllaaGreat.Cu

namespace Go.Proofs.YtchebkpcgglllaaGreat.Cu
open Go Go.SX Go.Proofs.YtchebkpcgglllaaGreat.VT
set_option maxRecDepth 100000
set_option linter.unusedVariables false

/-- A writer that has written these bytes. -/
def wrH (xs : List Int) : List Ob := [.cells 95 [.s 1], .row 5 1 xs.length (byts xs)]
def wr0 : List Ob := [.cells 95 [.v (.slice none 0 0)]]
theorem wbytes_fn (G : Gh) (A : Option Addr) (c : Nat) (bs xs : List Int) (hs : SlB G A c bs) (hlen : xs.length + bs.length ≤ 140737488355328) :
    Ct Tryz.prog 45 [.p 0 0, .v (.slice A bs.length c)] (wrH xs) G fun sv H' G' => sv = .tup [] ∧ H' = wrH (xs ++ bs) ∧ G' = G := by
  refine fn_of follows [] Tryz.func45 rfl rfl fun E hE => ?_
  repeat' ((fail_if_success with_reducible refine Stop.mk ?_);(conv=>whnf);with_reducible first|refine br_f ?_|refine br_not ?_|refine stop ?_)
  all_goals refine Stop.mk ?_
  refine ⟨_, hs, ⟨by show (xs.length + bs.length) * 1 ≤ _; omega, ?_⟩⟩
  repeat' ((fail_if_success with_reducible refine Stop.mk ?_);(conv=>whnf);with_reducible refine stop ?_)
  all_goals refine Stop.mk ?_
  refine fin_all ⟨rfl, ?_, rfl⟩
  unfold wrH
  rw [List.length_append, show byts (xs ++ bs) = byts xs ++ byts bs by simp [byts]]
  rfl
theorem wbytes0_fn (G : Gh) (A : Option Addr) (c : Nat) (bs : List Int) (hs : SlB G A c bs) (hlen : bs.length ≤ 140737488355328) :
    Ct Tryz.prog 45 [.p 0 0, .v (.slice A bs.length c)] wr0 G fun sv H' G' => sv = .tup [] ∧ H' = wrH bs ∧ G' = G := by
  refine fn_of follows [] Tryz.func45 rfl rfl fun E hE => ?_
  repeat' ((fail_if_success with_reducible refine Stop.mk ?_);(conv=>whnf);with_reducible first|refine br_f ?_|refine br_not ?_|refine stop ?_)
  all_goals refine Stop.mk ?_
  refine ⟨_, hs, by show bs.length * 1 ≤ _; omega, ?_⟩
  repeat' ((fail_if_success with_reducible refine Stop.mk ?_);(conv=>whnf);with_reducible refine stop ?_)
  all_goals refine Stop.mk ?_
  exact fin_all ⟨rfl, rfl, rfl⟩
theorem putB_len (x : Nat) : (putB x).length ≤ 10 := vput_len_le 9 x
theorem wuint_fn (G : Gh) (x : Nat) (xs : List Int) (hx : x < 18446744073709551616) (hlen : xs.length ≤ 1000000) :
    Ct Tryz.prog 92 [.p 0 0, .v (.int .u64 x)] (wrH xs) G fun sv H' G' => sv = .tup [] ∧ H' = wrH (xs ++ putB x) := by
  refine fn_of follows [] Tryz.func92 rfl rfl fun E hE => ?_
  have hp := putB_len x
  repeat' ((fail_if_success with_reducible refine Stop.mk ?_);(conv=>whnf);with_reducible refine stop ?_)
  all_goals refine Stop.mk ?_
  refine call_fn [] (put_fn G x hx) rfl trivial (by decide) ?_
  rintro sv H' G' ⟨⟨A, c, rfl, hs⟩, rfl⟩ _
  refine ⟨Nat.zero_le _, ?_⟩
  repeat' ((fail_if_success with_reducible refine Stop.mk ?_);(conv=>whnf);with_reducible refine stop ?_)
  all_goals refine Stop.mk ?_
  refine call_fn [0, 1] (wbytes_fn _ A c (putB x) xs hs (by omega)) rfl ⟨rfl, rfl, trivial⟩ (by decide) ?_
  rintro sv H' G' ⟨rfl, rfl, rfl⟩ hg
  refine ⟨by simp [wrH], ?_⟩
  repeat' ((fail_if_success with_reducible refine Stop.mk ?_);(conv=>whnf);with_reducible refine stop ?_)
  all_goals refine Stop.mk ?_
  exact fin_all ⟨rfl, rfl⟩
theorem wbyte_fn (G : Gh) (x : Int) (xs : List Int) (hlen : xs.length ≤ 1000000) :
    Ct Tryz.prog 96 [.p 0 0, .v (.int .u8 x)] (wrH xs) G fun sv H' G' => sv = .tup [] ∧ H' = wrH (xs ++ [x]) := by
  refine fn_of follows [] Tryz.func96 rfl rfl fun E hE => ?_
  repeat' ((fail_if_success with_reducible refine Stop.mk ?_);(conv=>whnf);with_reducible refine stop ?_)
  all_goals refine Stop.mk ?_
  refine call_done 2 rfl (by simp [Value.oneCell']) (fun A c G2 hg hs => call_fn [0, 1] (wbytes_fn G2 A c [x] xs hs (by simp; omega)) rfl ⟨rfl, rfl, trivial⟩ (by decide) ?_) (wbytes_fn G none 0 [] [] (slB_nil _) (by simp)).enters
  rintro sv H' G' ⟨rfl, rfl, rfl⟩ hg
  refine ⟨by simp [wrH], ?_⟩
  repeat' ((fail_if_success with_reducible refine Stop.mk ?_);(conv=>whnf);with_reducible refine stop ?_)
  all_goals refine Stop.mk ?_
  exact fin_id hE 2 rfl rfl rfl rfl ⟨rfl, rfl⟩
theorem wint_fn (G : Gh) (x : Int) (xs : List Int) (h0 : -9223372036854775808 ≤ x) (h1 : x ≤ 9223372036854775807) (hlen : xs.length ≤ 1000000) :
    Ct Tryz.prog 155 [.p 0 0, .v (.int .i64 x)] (wrH xs) G fun sv H' G' => sv = .tup [] ∧ H' = wrH (xs ++ putB (zig x).toNat) := by
  refine fn_of follows [] Tryz.func155 rfl rfl fun E hE => ?_
  have hz := zig_range x h0 h1
  repeat' ((fail_if_success with_reducible refine Stop.mk ?_);(conv=>whnf);with_reducible refine stop ?_)
  all_goals refine Stop.mk ?_
  refine call_fn [] (zigzag_fn G x h0 h1) rfl trivial (by decide) ?_
  rintro sv H' G' ⟨rfl, rfl, rfl⟩ _
  refine ⟨Nat.zero_le _, ?_⟩
  rw [show zig x = (((zig x).toNat : Nat) : Int) by omega]
  repeat' ((fail_if_success with_reducible refine Stop.mk ?_);(conv=>whnf);with_reducible refine stop ?_)
  all_goals refine Stop.mk ?_
  refine call_fn [0, 1] (wuint_fn _ (zig x).toNat xs (by omega) hlen) rfl ⟨rfl, rfl, trivial⟩ (by decide) ?_
  rintro sv H' G' ⟨rfl, rfl⟩ hg
  refine ⟨by simp [wrH], ?_⟩
  repeat' ((fail_if_success with_reducible refine Stop.mk ?_);(conv=>whnf);with_reducible refine stop ?_)
  all_goals refine Stop.mk ?_
  exact fin_all ⟨rfl, by rw [Int.toNat_natCast]; try rfl⟩
/-- Out, the result a slice of its own. -/
theorem wout_fn (G : Gh) (xs : List Int) (hlen : xs.length ≤ 100000000) :
    Ct Tryz.prog 44 [.p 0 0] (wrH xs) G fun sv H' G' => sv = .s 2 ∧ H' = wrH xs ++ [.row 5 1 xs.length (byts xs)] ∧ G' = G := by
  refine fn_of follows [] Tryz.func44 rfl rfl fun E hE => ?_
  repeat' ((fail_if_success with_reducible refine Stop.mk ?_);(conv=>whnf);with_reducible first|refine br_f ?_|refine stop ?_)
  all_goals refine Stop.mk ?_
  refine ⟨byts_one _, by show (0 + xs.length) * 1 ≤ _; omega, ?_⟩
  repeat' ((fail_if_success with_reducible refine Stop.mk ?_);(conv=>whnf);with_reducible refine stop ?_)
  all_goals refine Stop.mk ?_
  refine fin_all ⟨rfl, ?_, rfl⟩
  simp only [Nat.zero_add]
  rfl
/-- The reference's comparison. -/
theorem getD_eq {l m : List Int} (hl : l.length = m.length) (h : ∀ i, i < l.length → l.getD i 0 = m.getD i 0) : l = m := by
  refine List.ext_getElem hl fun i h1 h2 => ?_
  have := h i h1
  simpa [List.getD_eq_getElem?_getD, List.getElem?_eq_getElem h1, List.getElem?_eq_getElem h2] using this
theorem same_fn (G : Gh) (A B : Option Addr) (c d : Nat) (xs ys : List Int) (hs : SlB G A c xs) (ht : SlB G B d ys) :
    Ct Tryz.prog 15 [.v (.slice A xs.length c), .v (.slice B ys.length d)] [] G fun sv H' G' => sv = .v (.bool (decide (xs = ys))) ∧ H' = [] ∧ G' = G := by
  have htop := hs.top
  have hcap := hs.cap
  refine fn_of follows [(6, (.cons 0 [] (.cons 1 [] (.cons 2 [] (.cons 3 [] (.cons 4 [] (.cons 5 [] (.cons 6 [] (.cons 7 [] (.cons 8 [] .nil))))))))))] Tryz.func15 rfl rfl fun E hE => ?_
  repeat' ((fail_if_success with_reducible refine Stop.mk ?_);(conv=>whnf);with_reducible first|refine br_n (fun h=>?_) fun h=>?_|refine stop ?_)
  all_goals refine Stop.mk ?_
  · refine loop_rule follows [(6, (.cons 0 [] (.cons 1 [] (.cons 2 [] (.cons 3 [] (.cons 4 [] (.cons 5 [] (.cons 6 [] (.cons 7 [] (.cons 8 [] .nil))))))))))] (α := Nat) (fun k s => (k ≤ xs.length ∧ ∀ i, i < k → xs.getD i 0 = ys.getD i 0) ∧
      s = ⟨mkF 26 [(0, .v (.slice A xs.length c)), (1, .v (.slice B ys.length d)), (5, .v (.int .i64 k))], [], G⟩) (fun k => xs.length - k) ⟨0, _, ⟨⟨by omega, fun i hi => by omega⟩, rfl⟩, rfl, rfl, ?_⟩ ?_
    · (repeat' (first | exact trivial | exact .inl rfl | exact .inr rfl | refine And.intro ?_ ?_))
    rintro k s ⟨⟨h1, h2⟩, rfl⟩
    repeat' ((fail_if_success with_reducible refine Stop.mk ?_);(conv=>whnf);with_reducible first|refine br_d (fun h=>?_) fun h=>?_|refine drw (by kernel_rfl) ?_|refine stop ?_)
    all_goals refine Stop.mk ?_
    · have hw2 : IntKind.i64.wrap ((k : Int) + 1) = ((k + 1 : Nat) : Int) := by rw [i64_in (by omega) (by omega)]; simp
      refine ⟨⟨by omega, by omega⟩, _, hs, fun ad had hadr => ?_⟩
      repeat' ((fail_if_success with_reducible refine Stop.mk ?_);(conv=>whnf);with_reducible refine stop ?_)
      all_goals refine Stop.mk ?_
      refine ⟨_, el1 had (by omega), ?_⟩
      repeat' ((fail_if_success with_reducible refine Stop.mk ?_);(conv=>whnf);with_reducible refine stop ?_)
      all_goals refine Stop.mk ?_
      refine ⟨⟨by omega, by omega⟩, _, ht, fun ad2 had2 hadrad2 => ?_⟩
      repeat' ((fail_if_success with_reducible refine Stop.mk ?_);(conv=>whnf);with_reducible refine stop ?_)
      all_goals refine Stop.mk ?_
      refine ⟨_, el1 had2 (by omega), ?_⟩
      rw [Int.toNat_natCast]
      repeat' ((fail_if_success with_reducible refine Stop.mk ?_);(conv=>whnf);with_reducible first|refine br_n (fun h=>?_) fun h=>?_|refine stop ?_)
      all_goals refine Stop.mk ?_
      · rw [hw2]
        refine ⟨k + 1, _, ⟨⟨by omega, fun i hi => ?_⟩, rfl⟩, by omega, rfl, rfl, ?_⟩
        · by_cases hik : i = k
          · subst hik; assumption
          · exact h2 i (by omega)
        · (repeat' (first | exact trivial | exact .inl rfl | exact .inr rfl | refine And.intro ?_ ?_))
      · refine fin_all ⟨?_, rfl, rfl⟩
        rw [decide_eq_false]
        intro he
        subst he
        exact absurd rfl (by assumption)
    · refine fin_all ⟨?_, rfl, rfl⟩
      rw [decide_eq_true]
      exact getD_eq (by omega) fun i hi => h2 i (by omega)
  · refine fin_all ⟨?_, rfl, rfl⟩
    rw [decide_eq_false]
    intro he
    subst he
    exact absurd rfl (by assumption)
end Go.Proofs.YtchebkpcgglllaaGreat.Cu

namespace Go.Proofs.YtchebkpcgglllaaGreat.Cu
open Go Go.SX Go.Proofs.YtchebkpcgglllaaGreat.VT
set_option maxRecDepth 100000
set_option linter.unusedVariables false
set_option linter.unusedSimpArgs false

theorem SlB.of {G : Gh} {A : Option Addr} {n c sz : Nat} {xs : List Value} (l : List Int) (h : Sl G A n c sz xs) (h1 : n = l.length) (h2 : sz = 1) (h3 : xs = byts l) : SlB G A c l := by subst h1 h2 h3; exact h
theorem SlB.to {G G' : Gh} {A : Option Addr} {c : Nat} {l : List Int} (h : SlB G A c l) (hg : Ghe G G') : SlB G' A c l :=
  ⟨h.len, h.cap, h.top, fun ad had j v hj => by
    have := h.there ad had j v hj
    unfold Gcell at this ⊢
    split at this <;> rename_i hx
    · rw [hg _ _ hx]; exact this
    · simp at this, h.nil, h.ones⟩
instance (l : List Int) : Decidable (isB l) := inferInstanceAs (Decidable (∀ x ∈ l, 0 ≤ x ∧ x ≤ 255))
def b1 : List Int := [172, 2, 5]
def b2 : List Int := [2, 0, 0, 0]
end Go.Proofs.YtchebkpcgglllaaGreat.Cu

namespace Go.Proofs.YtchebkpcgglllaaGreat.Cu
open Go Go.SX Go.Proofs.YtchebkpcgglllaaGreat.VT
set_option maxRecDepth 100000
set_option linter.unusedVariables false
set_option linter.unusedSimpArgs false

/-- What is left, and the error. -/
abbrev Ps := List Int × Int
def curL (A : Option Addr) (bs : List Int) (c : Nat) (p : Ps) : Ob := curO A bs.length c ((bs.length - p.1.length : Nat) : Int) p.2
/-- A cursor over bytes that nobody changes. -/
structure CurOK (G : Gh) (A : Option Addr) (c : Nat) (bs : List Int) (p : Ps) : Prop where
  hb : isB bs
  hs : SlB G A c bs
  hl : bs.length ≤ 140737488355328
  suf : p.1 <:+ bs
theorem CurOK.to {G G' : Gh} {A : Option Addr} {c : Nat} {bs : List Int} {p : Ps} (h : CurOK G A c bs p) (hg : Ghe G G') : CurOK G' A c bs p := ⟨h.hb, Sl.to hg h.hs, h.hl, h.suf⟩
theorem CurOK.next {G : Gh} {A : Option Addr} {c : Nat} {bs : List Int} {p q : Ps} (h : CurOK G A c bs p) (hq : q.1 <:+ p.1) : CurOK G A c bs q := ⟨h.hb, h.hs, h.hl, hq.trans h.suf⟩
theorem CurOK.drop {G : Gh} {A : Option Addr} {c : Nat} {bs : List Int} {p : Ps} (h : CurOK G A c bs p) : bs.drop (bs.length - p.1.length) = p.1 := (List.suffix_iff_eq_drop.1 h.suf).symm
theorem CurOK.le {G : Gh} {A : Option Addr} {c : Nat} {bs : List Int} {p : Ps} (h : CurOK G A c bs p) : p.1.length ≤ bs.length := h.suf.length_le
theorem CurOK.isb {G : Gh} {A : Option Addr} {c : Nat} {bs : List Int} {p : Ps} (h : CurOK G A c bs p) : isB p.1 := by rw [← h.drop]; exact isB_drop h.hb _
/-! ### Byte -/
def sByte (p : Ps) : Int × Ps :=
  if p.2 ≠ 0 then (0, p) else match p.1 with
    | [] => (0, ([], 1))
    | x :: l => (x, (l, 0))
theorem sByte_suf (p : Ps) : (sByte p).2.1 <:+ p.1 := by
  unfold sByte
  split
  · exact List.suffix_refl _
  · split
    · rename_i h; rw [h]; exact List.suffix_refl _
    · rename_i x l h; rw [h]; exact List.suffix_cons x l
theorem sByte_err {p : Ps} (h : p.2 ≠ 0) : sByte p = (0, p) := if_pos h
theorem sByte_range {p : Ps} (hb : isB p.1) : 0 ≤ (sByte p).1 ∧ (sByte p).1 ≤ 255 := by
  unfold sByte
  split
  · simp
  · split
    · simp
    · rename_i x l h; exact hb x (by rw [h]; simp)
theorem pbyte_fn {G : Gh} {A : Option Addr} {bs : List Int} {c : Nat} {p : Ps} (h : CurOK G A c bs p) :
    Ct Tryz.prog 61 [.p 0 0] [curL A bs c p] G fun sv H' G' => sv = .v (.int .u8 (sByte p).1) ∧ H' = [curL A bs c (sByte p).2] ∧ G' = G := by
  have h1 := byte_fn G A bs c (bs.length - p.1.length) p.2 h.hb h.hs (by omega)
  have hd := h.drop
  have hle := h.le
  have key : cByte bs (bs.length - p.1.length) p.2 = ((sByte p).1, bs.length - (sByte p).2.1.length, (sByte p).2.2) := by
    obtain ⟨l, e⟩ := p
    simp only at hd hle ⊢
    unfold cByte sByte
    by_cases he : e = 0
    · subst he
      cases l with
      | nil => simp
      | cons x l =>
        simp only [List.length_cons] at hle hd ⊢
        have hx : bs.getD (bs.length - (l.length + 1)) 0 = x := by
          have := congrArg (fun q : List Int => q[0]?) hd
          simp only [List.getElem?_drop, List.getElem?_cons_zero, Nat.add_zero] at this
          rw [List.getD_eq_getElem?_getD, this]; rfl
        simp only [ne_eq, not_true_eq_false, if_false]
        rw [if_neg (by omega), hx, show bs.length - (l.length + 1) + 1 = bs.length - l.length by omega]
    · simp [he]
  rw [key] at h1
  exact h1
/-! ### Uint -/
def sUint (most : Int) (p : Ps) : Int × Ps :=
  if p.2 ≠ 0 then (0, p) else if whyU most (vdec 0 p.1) = 0 then ((vdec 0 p.1).1, (p.1.drop (vdec 0 p.1).2.1.toNat, 0)) else (0, (p.1, whyU most (vdec 0 p.1)))
theorem sUint_suf (most : Int) (p : Ps) : (sUint most p).2.1 <:+ p.1 := by
  unfold sUint
  split
  · exact List.suffix_refl _
  · split
    · exact List.drop_suffix _ _
    · exact List.suffix_refl _
theorem sUint_err {most : Int} {p : Ps} (h : p.2 ≠ 0) : sUint most p = (0, p) := if_pos h
theorem sUint_range {most : Int} {p : Ps} (hb : isB p.1) : 0 ≤ (sUint most p).1 ∧ (sUint most p).1 < 18446744073709551616 ∧ (0 ≤ most → (sUint most p).1 ≤ most) := by
  unfold sUint
  rcases vdec_form hb with ⟨x, hx, h⟩ | ⟨n, m, h, h3, h4, h5, _⟩ <;> rw [h] <;> unfold whyU <;> (repeat' split) <;> simp at * <;> omega
theorem puint_fn {G : Gh} {A : Option Addr} {bs : List Int} {c : Nat} {p : Ps} (most : Int) (h : CurOK G A c bs p) :
    Ct Tryz.prog 64 [.p 0 0, .v (.int .u64 most)] [curL A bs c p] G fun sv H' G' => sv = .v (.int .u64 (sUint most p).1) ∧ H' = [curL A bs c (sUint most p).2] ∧ G' = G := by
  have h1 := uint_fn G A bs c (bs.length - p.1.length) p.2 most h.hb h.hs (by omega)
  have hle := h.le
  have key : cUint bs (bs.length - p.1.length) p.2 most = ((sUint most p).1, bs.length - (sUint most p).2.1.length, (sUint most p).2.2) := by
    unfold cUint sUint
    rw [h.drop]
    split
    · rfl
    · split
      · rcases vdec_form h.isb with ⟨x, hx, h⟩ | ⟨n, m, h, h3, h4, h5, _⟩ <;> rw [h] <;> simp <;> omega
      · rfl
  rw [key] at h1
  exact h1
def sInt (p : Ps) : Int × Ps := (unzig (sUint 18446744073709551615 p).1, (sUint 18446744073709551615 p).2)
theorem sInt_suf (p : Ps) : (sInt p).2.1 <:+ p.1 := sUint_suf _ _
theorem sInt_err {p : Ps} (h : p.2 ≠ 0) : sInt p = (0, p) := by unfold sInt; rw [sUint_err h]; rfl
theorem pint_fn {G : Gh} {A : Option Addr} {bs : List Int} {c : Nat} {p : Ps} (h : CurOK G A c bs p) :
    Ct Tryz.prog 118 [.p 0 0] [curL A bs c p] G fun sv H' G' => sv = .v (.int .i64 (sInt p).1) ∧ H' = [curL A bs c (sInt p).2] ∧ G' = G := by
  refine fn_of follows [] Tryz.func118 rfl rfl fun E hE => ?_
  repeat' ((fail_if_success with_reducible refine Stop.mk ?_);(conv=>whnf);with_reducible refine stop ?_)
  all_goals refine Stop.mk ?_
  refine call_fn [0] (puint_fn 18446744073709551615 h) rfl ⟨rfl, trivial⟩ (by decide) ?_
  rintro sv H' G' ⟨rfl, rfl, rfl⟩ -
  refine ⟨Nat.le_of_ble_eq_true rfl, ?_⟩
  have hr := sUint_range (most := 18446744073709551615) h.isb
  repeat' ((fail_if_success with_reducible refine Stop.mk ?_);(conv=>whnf);with_reducible refine stop ?_)
  all_goals refine Stop.mk ?_
  refine call_fn [] (unzigzag_fn _ _ hr.1 hr.2.1) rfl trivial (by decide) ?_
  rintro sv H' G' ⟨rfl, rfl, rfl⟩ -
  refine ⟨Nat.le_of_ble_eq_true rfl, ?_⟩
  repeat' ((fail_if_success with_reducible refine Stop.mk ?_);(conv=>whnf);with_reducible refine stop ?_)
  all_goals refine Stop.mk ?_
  exact fin_all ⟨rfl, rfl, rfl⟩
/-! ### Count, Bytes -/
def sCount (most size : Int) (p : Ps) : Int × Ps :=
  if p.2 ≠ 0 then (0, p) else if (resC most size p.1).2.2 = 0 then ((resC most size p.1).1, (p.1.drop (resC most size p.1).2.1.toNat, 0)) else (0, (p.1, (resC most size p.1).2.2))
theorem sCount_suf (most size : Int) (p : Ps) : (sCount most size p).2.1 <:+ p.1 := by
  unfold sCount
  split
  · exact List.suffix_refl _
  · split
    · exact List.drop_suffix _ _
    · exact List.suffix_refl _
theorem sCount_err {most size : Int} {p : Ps} (h : p.2 ≠ 0) : sCount most size p = (0, p) := if_pos h
theorem sCount_range {most size : Int} {p : Ps} (hb : isB p.1) (hm : 0 ≤ most) : 0 ≤ (sCount most size p).1 ∧ (sCount most size p).1 ≤ most := by
  unfold sCount
  split
  · simp; omega
  · rcases resC_form hb most size with ⟨x, hx, h⟩ | ⟨n, m, _, _, h, _, h1, _⟩ <;> rw [h]
    · simp [hx]; omega
    · simp; omega
theorem pcount_fn {G : Gh} {A : Option Addr} {bs : List Int} {c : Nat} {p : Ps} (most size : Int) (h : CurOK G A c bs p) (hm : most ≤ 9223372036854775807) (hz : size ≤ 9223372036854775807) :
    Ct Tryz.prog 77 [.p 0 0, .v (.int .i64 most), .v (.int .i64 size)] [curL A bs c p] G fun sv H' G' => sv = .v (.int .i64 (sCount most size p).1) ∧ H' = [curL A bs c (sCount most size p).2] ∧ G' = G := by
  have h1 := count_fn G A bs c (bs.length - p.1.length) p.2 most size h.hb h.hs (by omega) hm hz
  have hle := h.le
  have key : cCount bs (bs.length - p.1.length) p.2 most size = ((sCount most size p).1, bs.length - (sCount most size p).2.1.length, (sCount most size p).2.2) := by
    unfold cCount sCount
    rw [h.drop]
    split
    · rfl
    · rcases resC_form h.isb most size with ⟨x, hx, h⟩ | ⟨n, m, _, _, h, _, h1, _, h2, _⟩ <;> rw [h]
      · simp [hx]
      · simp; omega
  rw [key] at h1
  exact h1
def sBytes (n : Int) (p : Ps) : List Int × Ps :=
  if p.2 ≠ 0 then ([], p) else if n < 0 then ([], (p.1, 32)) else if n > p.1.length then ([], (p.1, 1)) else (p.1.take n.toNat, (p.1.drop n.toNat, 0))
theorem sBytes_suf (n : Int) (p : Ps) : (sBytes n p).2.1 <:+ p.1 := by
  unfold sBytes
  split
  · exact List.suffix_refl _
  · split
    · exact List.suffix_refl _
    · split
      · exact List.suffix_refl _
      · exact List.drop_suffix _ _
theorem sBytes_err {n : Int} {p : Ps} (h : p.2 ≠ 0) : sBytes n p = ([], p) := if_pos h
theorem sBytes_isb {n : Int} {p : Ps} (hb : isB p.1) : isB (sBytes n p).1 := by
  unfold sBytes
  split
  · intro x hx; simp at hx
  · split
    · intro x hx; simp at hx
    · split
      · intro x hx; simp at hx
      · exact isB_take hb _
theorem pbytes_fn {G : Gh} {A : Option Addr} {bs : List Int} {c : Nat} {p : Ps} (n : Int) (h : CurOK G A c bs p) (hn : n ≤ 9223372036854775807) :
    Ct Tryz.prog 66 [.p 0 0, .v (.int .i64 n)] [curL A bs c p] G fun sv H' G' =>
      (∃ A' c', sv = .v (.slice A' (sBytes n p).1.length c') ∧ SlB G' A' c' (sBytes n p).1) ∧ H' = [curL A bs c (sBytes n p).2] := by
  have h1 := bytes_fn G A bs c (bs.length - p.1.length) p.2 n h.hs (by omega) h.hl hn
  have hle := h.le
  have key : cBytes bs (bs.length - p.1.length) p.2 n = ((sBytes n p).1, bs.length - (sBytes n p).2.1.length, (sBytes n p).2.2) := by
    unfold cBytes sBytes
    rw [h.drop]
    rw [show bs.length - (bs.length - p.1.length) = p.1.length by omega]
    split
    · rfl
    · split
      · rfl
      · split
        · rfl
        · simp; omega
  rw [key] at h1
  exact h1
/-! ### Fail, End, Err, Left -/
def sFail (why : Int) (p : Ps) : Ps := (p.1, failE p.2 why)
theorem pfail_fn {G : Gh} {A : Option Addr} {bs : List Int} {c : Nat} {p : Ps} (why : Int) :
    Ct Tryz.prog 63 [.p 0 0, .v (.int .i64 why)] [curL A bs c p] G fun sv H' G' => sv = .tup [] ∧ H' = [curL A bs c (sFail why p)] ∧ G' = G :=
  fail_fn G A bs.length c _ p.2 why
def sLeft (p : Ps) : Int := if p.2 = 0 then p.1.length else 0
theorem pleft_fn {G : Gh} {A : Option Addr} {bs : List Int} {c : Nat} {p : Ps} (h : CurOK G A c bs p) :
    Ct Tryz.prog 65 [.p 0 0] [curL A bs c p] G fun sv H' G' => sv = .v (.int .i64 (sLeft p)) ∧ H' = [curL A bs c p] ∧ G' = G := by
  have hle := h.le
  have hl := h.hl
  have h1 := left_fn G A bs.length c ((bs.length - p.1.length : Nat) : Int) p.2 (by omega) (by omega) (by omega)
  have : leftN bs.length ((bs.length - p.1.length : Nat) : Int) p.2 = sLeft p := by unfold leftN sLeft; split <;> omega
  rw [this] at h1
  exact h1
def sEnd (p : Ps) : Ps := (p.1, if sLeft p > 0 then 2 else p.2)
theorem pend_fn {G : Gh} {A : Option Addr} {bs : List Int} {c : Nat} {p : Ps} (h : CurOK G A c bs p) :
    Ct Tryz.prog 67 [.p 0 0] [curL A bs c p] G fun sv H' G' => sv = .tup [] ∧ H' = [curL A bs c (sEnd p)] ∧ G' = G := by
  have hle := h.le
  have hl := h.hl
  have h1 := end_fn G A bs.length c ((bs.length - p.1.length : Nat) : Int) p.2 (by omega) (by omega) (by omega)
  have : leftN bs.length ((bs.length - p.1.length : Nat) : Int) p.2 = sLeft p := by unfold leftN sLeft; split <;> omega
  rw [this] at h1
  exact h1
theorem perr_fn {G : Gh} {A : Option Addr} {bs : List Int} {c : Nat} {p : Ps} :
    Ct Tryz.prog 62 [.p 0 0] [curL A bs c p] G fun sv H' G' => sv = .v (.int .i64 p.2) ∧ H' = [curL A bs c p] ∧ G' = G :=
  err_fn G A bs.length c _ p.2
theorem pnew_fn (G : Gh) (A : Option Addr) (bs : List Int) (c : Nat) (hb : isB bs) (hs : SlB G A c bs) (hlen : bs.length ≤ 140737488355328) :
    Ct Tryz.prog 60 [.v (.slice A bs.length c)] [] G fun sv H' G' => ∃ A' c', sv = .p 0 0 ∧ H' = [curL A' bs c' (bs, 0)] ∧ CurOK G' A' c' bs (bs, 0) := by
  have h := new_fn G A bs c hs hlen
  refine ⟨h.enters, fun ρ w ys hA hargs => (h.calls ρ w ys hA hargs).mono fun e w' hh => ?_⟩
  obtain ⟨v, sv, H', G', ρ', rfl, ⟨A', c', rfl, rfl, hs'⟩, hA', hr⟩ := hh
  refine ⟨v, _, _, G', ρ', rfl, ⟨A', c', rfl, ?_, hb, hs', hlen, List.suffix_refl _⟩, hA', hr⟩
  unfold curL
  simp only [Nat.sub_self]
  rfl
end Go.Proofs.YtchebkpcgglllaaGreat.Cu

namespace Go.Proofs.YtchebkpcgglllaaGreat.Cu
open Go Go.SX Go.Proofs.YtchebkpcgglllaaGreat.VT
set_option maxRecDepth 100000
set_option linter.unusedVariables false
set_option linter.unusedSimpArgs false

def rowB (l : List Int) : Ob := .row 5 1 l.length (byts l)
theorem byts_app (l m : List Int) : byts (l ++ m) = byts l ++ byts m := by simp [byts]
theorem rput_fn (G : Gh) (v : Nat) (hv : v < 18446744073709551616) :
    Ct Tryz.prog 138 [.v (.int .u64 v)] [] G fun sv H' G' => sv = .s 0 ∧ H' = [rowB (putB v)] ∧ G' = G := by
  refine fn_of follows [] Tryz.func138 rfl rfl fun E hE => ?_
  repeat' ((fail_if_success with_reducible refine Stop.mk ?_);(conv=>whnf);with_reducible refine stop ?_)
  all_goals refine Stop.mk ?_
  refine loop_gh (gh_birth 3 5 1 rfl) ?_
  rintro _ _ ⟨rfl, rfl⟩
  refine loop_vars follows [] (α := Nat × Nat × List Int) (fun x => [(0, .v (.int .u64 x.2.1)), (3, .s 0)]) (fun x => [rowB x.2.2]) (fun x => G)
    (fun x => x.1 ≤ 9 ∧ x.2.1 < 2 ^ (1 + 7 * x.1) ∧ x.2.2 ++ vput x.1 x.2.1 = putB v) (fun x => x.1) (9, v, []) ⟨Nat.le_refl _, by simpa using hv, rfl⟩ rfl rfl ?_ ?_
  ·
    refine ⟨?_⟩
    (conv => whnf)
    (repeat' (first | exact trivial | exact .inl rfl | exact .inr rfl | refine And.intro ?_ ?_))
  rintro ⟨i, u, out⟩ ⟨h1, h2, h3⟩
  dsimp only at h1 h2 h3 ⊢
  have h64 : 2 ^ (1 + 7 * i) ≤ 18446744073709551616 := by
    have := Nat.pow_le_pow_right (n := 2) (by decide) (show 1 + 7 * i ≤ 64 by omega)
    omega
  have hlen : out.length ≤ 10 := by
    have := congrArg List.length h3
    have h5 := putB_len v
    rw [List.length_append] at this
    have h4 : (putB v).length ≤ 10 := h5
    omega
  repeat' ((fail_if_success with_reducible refine Stop.mk ?_);(conv=>whnf);with_reducible first|refine br_d (fun h=>?_) fun h=>?_|refine stop ?_)
  all_goals refine Stop.mk ?_
  · cases i with
    | zero => simp at h2; omega
    | succ j =>
      rw [Int.tmod_eq_emod_of_nonneg (by omega)]
      have e1 : IntKind.u8.wrap (IntKind.u8.wrap ((u : Int) % 128) + 128) = ((u % 128 + 128 : Nat) : Int) := by simp only [IntKind.wrap_u8]; omega
      have e2 : IntKind.u64.wrap ((u : Int) / 128) = ((u / 128 : Nat) : Int) := by rw [u64_in (by omega) (by omega)]; omega
      rw [e1]
      refine ⟨by simp [Value.oneCell'], ⟨by show (out.length + 1) * 1 ≤ _; omega, ?_⟩⟩
      repeat' ((fail_if_success with_reducible refine Stop.mk ?_);(conv=>whnf);with_reducible refine stop ?_)
      all_goals refine Stop.mk ?_
      rw [Int.tdiv_eq_ediv_of_nonneg (by omega), e2]
      have hst : vput (j + 1) u = ((u % 128 + 128 : Nat) : Int) :: vput j (u / 128) := by simp only [vput]; rw [if_neg (by omega)]
      refine tell_gc hE [0] rfl rfl ?_
      (conv => whnf)
      refine tell_here ⟨(j, u / 128, out ++ [((u % 128 + 128 : Nat) : Int)]), ⟨by show j ≤ 9; omega, ?_, ?_⟩, by show j < j + 1; omega, ?_, rfl, ?_⟩
      · show u / 128 < 2 ^ (1 + 7 * j)
        have := pow_step j
        omega
      · show (out ++ [_]) ++ vput j (u / 128) = putB v
        rw [← h3, hst]; simp
      · show [rowB _] = _
        unfold rowB
        rw [List.length_append, byts_app]; rfl
      ·
        refine ⟨?_⟩
        (conv => whnf)
        (repeat' (first | exact trivial | exact .inl rfl | exact .inr rfl | refine And.intro ?_ ?_))
  · have hst : vput i u = [(u : Int)] := by cases i with
      | zero => rfl
      | succ j => simp only [vput]; rw [if_pos (by omega)]
    have e1 : IntKind.u8.wrap (u : Int) = u := by simp only [IntKind.wrap_u8]; omega
    rw [e1]
    refine ⟨by simp [Value.oneCell'], ⟨by show (out.length + 1) * 1 ≤ _; omega, ?_⟩⟩
    repeat' ((fail_if_success with_reducible refine Stop.mk ?_);(conv=>whnf);with_reducible refine stop ?_)
    all_goals refine Stop.mk ?_
    refine fin_mk hE [0] (.s 0) [rowB (putB v)] rfl ⟨?_, trivial⟩ rfl ⟨rfl, rfl, rfl⟩
    rw [← h3, hst]
    show some _ = some _
    unfold rowB
    rw [List.length_append, byts_app]; rfl
end Go.Proofs.YtchebkpcgglllaaGreat.Cu
