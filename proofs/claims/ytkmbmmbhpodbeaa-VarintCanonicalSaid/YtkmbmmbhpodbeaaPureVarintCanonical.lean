/- Bytes that are decoded are the encoding of the integer, and two integers have the same encoding exactly if they are equal; no condition. -/
import Derived.Test.YtkmbmmbhpodbeaaVT
import Derived.Test.YtkmbmmbhpodbeaaPVarintCanonicalx3
namespace Go.Proofs.Ytkmbmmbhpodbeaa.LVarintCanonical
open Go.RowKit Go.Proofs.Ytkmbmmbhpodbeaa.PVarintCanonical Go.Proofs.YtkmbmmbhpodbeaaW.PrintWords Go.Proofs.YtkmbmmbhpodbeaaW.PrintLast Go.Proofs.Ytkmbmmbhpodbeaa.VT

theorem rd_nat (xs : List Int) (i : Nat) : rd xs (i : Int) = xs.getD i 0 := by unfold rd; rw [Int.toNat_natCast]
theorem w64 (n : Int) (h0 : -9223372036854775808 ≤ n) (h1 : n ≤ 9223372036854775807) : wrap64 n = n := by unfold wrap64; omega
theorem wu64 (n : Int) (h0 : 0 ≤ n) (h1 : n < 18446744073709551616) : IntKind.u64.wrap n = n := by rw [IntKind.wrap_u64]; omega
theorem bytes_of {l : List Int} (h : ∀ x ∈ l, (Lit.int .u8 x).wf = true) : ∀ x ∈ l, 0 ≤ x ∧ x ≤ 255 := by
  intro x hx
  have := h x hx
  simp [Lit.wf, IntKind.min, IntKind.max, IntKind.signed, IntKind.bits] at this
  omega
theorem u64_of {x : Int} (h : (Lit.int .u64 x).wf = true) : 0 ≤ x ∧ x < 18446744073709551616 := by
  simp [Lit.wf, IntKind.min, IntKind.max, IntKind.signed, IntKind.bits] at h
  omega
theorem i64_of {x : Int} (h : (Lit.int .i64 x).wf = true) : -9223372036854775808 ≤ x ∧ x ≤ 9223372036854775807 := by
  simp [Lit.wf, IntKind.min, IntKind.max, IntKind.signed, IntKind.bits] at h
  omega
theorem flag_eq {α : Type} (J : Bool → α) (i c : Int) :
    (if i = 9 then (if c > 1 then J true else (if i > 0 then J (c == 0) else J false)) else (if i > 0 then J (c == 0) else J false)) = J (decide ((i = 9 ∧ c > 1) ∨ (i > 0 ∧ c = 0))) := by
  have e : (c == 0) = decide (c = 0) := by rw [Bool.eq_iff_iff]; simp
  rw [e]
  by_cases h1 : i = 9 <;> by_cases h2 : c > 1 <;> by_cases h3 : i > 0 <;> simp [h1, h2, h3]
theorem drop_at {xs : List Int} {i : Nat} (h : i < xs.length) : xs.drop i = xs.getD i 0 :: xs.drop (i + 1) := by
  rw [List.drop_eq_getElem_cons h]
  simp [List.getD_eq_getElem?_getD, List.getElem?_eq_getElem h]
theorem getD_mem {xs : List Int} {i : Nat} (h : i < xs.length) : xs.getD i 0 ∈ xs := by
  rw [List.getD_eq_getElem?_getD, List.getElem?_eq_getElem h]; exact List.getElem_mem h
theorem pow7 (i : Nat) (h : i ≤ 9) : 2 ^ (7 * i) * 2 ≤ 18446744073709551616 ∧ 2 ^ (7 * i) ≤ 9223372036854775808 := by
  have := Nat.pow_le_pow_right (n := 2) (by decide) (show 7 * i ≤ 63 by omega)
  omega
theorem pow7s (i : Nat) : 2 ^ (7 * (i + 1)) = 2 ^ (7 * i) * 128 := by rw [show 7 * (i + 1) = 7 * i + 7 by omega, Nat.pow_add]
theorem pow7t (i : Nat) (h : i ≤ 8) : 2 ^ (7 * i) * 256 ≤ 18446744073709551616 := by
  have := Nat.pow_le_pow_right (n := 2) (by decide) (show 7 * i ≤ 56 by omega)
  omega

/-- v, then what is decoded from digit i on. -/
def from_ (v i : Nat) (x : Int × Int × Int) : Int × Int × Int := if x.2.2 = 0 then ((v : Int) + x.1 * ((2 ^ (7 * i) : Nat) : Int), x.2.1, 0) else (0, 0, x.2.2)
theorem from_err (v i : Nat) (e : Int) (h : e ≠ 0) : from_ v i (0, 0, e) = (0, 0, e) := by unfold from_; rw [if_neg h]
theorem from_cons (v i : Nat) (d : Int) (x : Int × Int × Int) (hd : (v : Int) + d * ((2 ^ (7 * i) : Nat) : Int) = ((v + d.toNat * 2 ^ (7 * i) : Nat) : Int)) :
    from_ (v + d.toNat * 2 ^ (7 * i)) (i + 1) x = from_ v i (if x.2.2 = 0 then (d + 128 * x.1, x.2.1, 0) else (0, 0, x.2.2)) := by
  unfold from_
  by_cases h : x.2.2 = 0
  · simp only [if_pos h, if_true]
    refine Prod.ext ?_ rfl
    simp only
    rw [← hd, pow7s, Int.natCast_mul]
    generalize ((2 ^ (7 * i) : Nat) : Int) = p
    rw [Int.add_mul, Int.add_assoc]
    congr 2
    push_cast
    ac_rfl
  · simp only [if_neg h]

theorem get_j1_flag (k : Nat) (x0 : List Int) (x5 x6 x7 x8 : Int) : varint_Get.j1 (k + 1) x0 x5 x6 x7 x8 true = some (0, 0, 3) := by
  simp only [varint_Get.j1, if_true]
theorem get_loop (x0 : List Int) (hb : ∀ x ∈ x0, 0 ≤ x ∧ x ≤ 255) (d : Nat) : ∀ (i v k : Nat), i + d = 9 → v < 2 ^ (7 * i) → 2 * d + 2 ≤ k →
    varint_Get.l0 k x0 (v : Int) (i : Int) = some (from_ v i (vdec i (x0.drop i))) := by
  induction d with
  | zero =>
    intro i v k hi hv hk
    obtain ⟨k, rfl⟩ : ∃ m, k = m + 2 := ⟨k - 2, by omega⟩
    obtain rfl : i = 9 := by omega
    have hp := pow7 9 (by omega)
    simp only [varint_Get.l0]
    rw [if_pos (by omega)]
    by_cases hlen : x0.length ≤ 9
    · rw [if_pos (by omega), List.drop_eq_nil_of_le hlen]; simp only [vdec]; rw [from_err _ _ _ (by decide)]
    · have hc := hb _ (getD_mem (xs := x0) (i := 9) (by omega))
      rw [if_neg (by omega), if_pos (by omega), if_pos (by omega), rd_nat, flag_eq, drop_at (by omega), vdec]
      by_cases hf : (((9 : Nat) : Int) = 9 ∧ x0.getD 9 0 > 1) ∨ (((9 : Nat) : Int) > 0 ∧ x0.getD 9 0 = 0)
      · rw [decide_eq_true hf, get_j1_flag, if_pos (by omega), from_err _ _ _ (by decide)]
      · rw [decide_eq_false hf, if_neg (by omega)]
        have h1 : x0.getD 9 0 = 1 := by omega
        rw [h1]
        simp only [varint_Get.j1]
        rw [if_neg (by decide), if_pos (by rw [w64 _ (by omega) (by omega)]; omega), if_pos (by decide), if_pos (by decide)]
        rw [show shl .u64 (IntKind.u64.wrap (Go.bits .andNot .u8 1 128)) (wrap64 (7 * ((9 : Nat) : Int))) = ((1 * 2 ^ 63 : Nat) : Int) from by decide +kernel]
        rw [or_join v 1 63 hv (by omega), w64 (((9 : Nat) : Int) + 1) (by omega) (by omega)]
        unfold from_
        simp only [if_true]
        congr 2
  | succ d ih =>
    intro i v k hi hv hk
    obtain ⟨k, rfl⟩ : ∃ m, k = m + 2 := ⟨k - 2, by omega⟩
    have hp := pow7 i (by omega)
    have hp2 := pow7t i (by omega)
    simp only [varint_Get.l0]
    rw [if_pos (by omega)]
    by_cases hlen : x0.length ≤ i
    · rw [if_pos (by omega), List.drop_eq_nil_of_le hlen]; simp only [vdec]; rw [from_err _ _ _ (by decide)]
    · have hc := hb _ (getD_mem (xs := x0) (i := i) (by omega))
      rw [if_neg (by omega), if_pos (by omega), if_pos (by omega), rd_nat, flag_eq, drop_at (by omega), vdec]
      generalize x0.getD i 0 = c at hc ⊢
      by_cases hf : ((i : Int) = 9 ∧ c > 1) ∨ ((i : Int) > 0 ∧ c = 0)
      · rw [decide_eq_true hf, get_j1_flag, if_pos (by omega), from_err _ _ _ (by decide)]
      · rw [decide_eq_false hf, if_neg (by omega)]
        simp only [varint_Get.j1]
        have hm : (c % 128).toNat < 128 := by omega
        have hsh : shl .u64 (IntKind.u64.wrap (Go.bits .andNot .u8 c 128)) (wrap64 (7 * (i : Int))) = (((c % 128).toNat * 2 ^ (7 * i) : Nat) : Int) := by
          rw [andNot128 c hc.1 hc.2, wu64 _ (by omega) (by omega), w64 _ (by omega) (by omega)]
          unfold shl
          rw [show min (7 * (i : Int)).toNat IntKind.u64.bits = 7 * i from by simp [IntKind.bits]; omega]
          have hle : (c % 128).toNat * 2 ^ (7 * i) ≤ 127 * 2 ^ (7 * i) := Nat.mul_le_mul_right _ (by omega)
          have e : (c % 128) * 2 ^ (7 * i) = (((c % 128).toNat * 2 ^ (7 * i) : Nat) : Int) := by
            push_cast
            rw [Int.toNat_of_nonneg (by omega)]
          rw [e, wu64 _ (by omega) (by omega)]
        have hle : (c % 128).toNat * 2 ^ (7 * i) ≤ 127 * 2 ^ (7 * i) := Nat.mul_le_mul_right _ (by omega)
        rw [if_neg (by decide), if_pos (by rw [w64 _ (by omega) (by omega)]; omega), hsh, or_join v _ (7 * i) hv (by omega), w64 ((i : Int) + 1) (by omega) (by omega)]
        have hd : (v : Int) + (c % 128) * ((2 ^ (7 * i) : Nat) : Int) = ((v + (c % 128).toNat * 2 ^ (7 * i) : Nat) : Int) := by
          push_cast
          rw [Int.toNat_of_nonneg (by omega)]
        by_cases h2 : c < 128
        · rw [if_pos h2, if_pos h2]
          unfold from_
          simp only [if_true]
          rw [← hd, Int.emod_eq_of_lt (by omega) h2]
        · rw [if_neg h2, if_neg h2, show ((i : Int) + 1) = ((i + 1 : Nat) : Int) from by omega]
          rw [ih (i + 1) _ k (by omega) (by rw [pow7s]; omega) (by omega), from_cons v i (c % 128) _ hd]
          rw [show c % 128 = c - 128 from by omega]
theorem from_zero (x : Int × Int × Int) (h : x.2.2 ≠ 0 → x.1 = 0 ∧ x.2.1 = 0) : from_ 0 0 x = x := by
  unfold from_
  by_cases h0 : x.2.2 = 0
  · rw [if_pos h0]; refine Prod.ext ?_ (Prod.ext rfl h0.symm); simp
  · rw [if_neg h0]; have := h h0; exact Prod.ext this.1.symm (Prod.ext this.2.symm rfl)
theorem vdec_err (l : List Int) (hb : ∀ x ∈ l, 0 ≤ x ∧ x ≤ 255) : (vdec 0 l).2.2 ≠ 0 → (vdec 0 l).1 = 0 ∧ (vdec 0 l).2.1 = 0 := by
  intro h
  rcases vdec_spec l 0 (by omega) hb with ⟨e, _, hd⟩ | ⟨n, m, hd, _⟩
  · rw [hd]; exact ⟨rfl, rfl⟩
  · rw [hd] at h; exact absurd rfl h
theorem get_is (l : List Int) (hb : ∀ x ∈ l, 0 ≤ x ∧ x ≤ 255) (k : Nat) (hk : 20 ≤ k) : varint_Get.f k l = some (vdec 0 l) := by
  have h := get_loop l hb 9 0 0 k (by omega) (by simp) (by omega)
  rw [List.drop_zero, from_zero _ (vdec_err l hb)] at h
  exact h

set_option maxRecDepth 100000 in
def tbl : ByteArray := (⟨#[0, 1, 2, 2, 3, 3, 3, 3, 4, 4, 4, 4, 4, 4, 4, 4, 5, 5, 5, 5, 5, 5, 5, 5, 5, 5, 5, 5, 5, 5, 5, 5, 6, 6, 6, 6, 6, 6, 6, 6, 6, 6, 6, 6, 6, 6, 6, 6, 6, 6, 6, 6, 6, 6, 6, 6, 6, 6, 6, 6, 6, 6, 6, 6, 7, 7, 7, 7, 7, 7, 7, 7, 7, 7, 7, 7, 7, 7, 7, 7, 7, 7, 7, 7, 7, 7, 7, 7, 7, 7, 7, 7, 7, 7, 7, 7, 7, 7, 7, 7, 7, 7, 7, 7, 7, 7, 7, 7, 7, 7, 7, 7, 7, 7, 7, 7, 7, 7, 7, 7, 7, 7, 7, 7, 7, 7, 7, 7, 8, 8, 8, 8, 8, 8, 8, 8, 8, 8, 8, 8, 8, 8, 8, 8, 8, 8, 8, 8, 8, 8, 8, 8, 8, 8, 8, 8, 8, 8, 8, 8, 8, 8, 8, 8, 8, 8, 8, 8, 8, 8, 8, 8, 8, 8, 8, 8, 8, 8, 8, 8, 8, 8, 8, 8, 8, 8, 8, 8, 8, 8, 8, 8, 8, 8, 8, 8, 8, 8, 8, 8, 8, 8, 8, 8, 8, 8, 8, 8, 8, 8, 8, 8, 8, 8, 8, 8, 8, 8, 8, 8, 8, 8, 8, 8, 8, 8, 8, 8, 8, 8, 8, 8, 8, 8, 8, 8, 8, 8, 8, 8, 8, 8, 8, 8, 8, 8, 8, 8, 8, 8, 8, 8, 8, 8, 8, 8]⟩ : ByteArray)
instance (n b : Nat) : Decidable (IsLen n b) := by unfold IsLen; infer_instance
theorem tbl_all : ∀ y : Fin 256, IsLen y.val (bt tbl ((y.val : Nat) : Int)).toNat ∧ 0 ≤ bt tbl ((y.val : Nat) : Int) ∧ bt tbl ((y.val : Nat) : Int) ≤ 8 := by decide +kernel
set_option maxRecDepth 100000 in
theorem tbl_is (y : Int) (h0 : 0 ≤ y) (h1 : y < 256) : ∃ b : Nat, bt (⟨#[0, 1, 2, 2, 3, 3, 3, 3, 4, 4, 4, 4, 4, 4, 4, 4, 5, 5, 5, 5, 5, 5, 5, 5, 5, 5, 5, 5, 5, 5, 5, 5, 6, 6, 6, 6, 6, 6, 6, 6, 6, 6, 6, 6, 6, 6, 6, 6, 6, 6, 6, 6, 6, 6, 6, 6, 6, 6, 6, 6, 6, 6, 6, 6, 7, 7, 7, 7, 7, 7, 7, 7, 7, 7, 7, 7, 7, 7, 7, 7, 7, 7, 7, 7, 7, 7, 7, 7, 7, 7, 7, 7, 7, 7, 7, 7, 7, 7, 7, 7, 7, 7, 7, 7, 7, 7, 7, 7, 7, 7, 7, 7, 7, 7, 7, 7, 7, 7, 7, 7, 7, 7, 7, 7, 7, 7, 7, 7, 8, 8, 8, 8, 8, 8, 8, 8, 8, 8, 8, 8, 8, 8, 8, 8, 8, 8, 8, 8, 8, 8, 8, 8, 8, 8, 8, 8, 8, 8, 8, 8, 8, 8, 8, 8, 8, 8, 8, 8, 8, 8, 8, 8, 8, 8, 8, 8, 8, 8, 8, 8, 8, 8, 8, 8, 8, 8, 8, 8, 8, 8, 8, 8, 8, 8, 8, 8, 8, 8, 8, 8, 8, 8, 8, 8, 8, 8, 8, 8, 8, 8, 8, 8, 8, 8, 8, 8, 8, 8, 8, 8, 8, 8, 8, 8, 8, 8, 8, 8, 8, 8, 8, 8, 8, 8, 8, 8, 8, 8, 8, 8, 8, 8, 8, 8, 8, 8, 8, 8, 8, 8, 8, 8, 8, 8, 8, 8]⟩ : ByteArray) y = (b : Int) ∧ IsLen y.toNat b ∧ b ≤ 8 := by
  have h := tbl_all ⟨y.toNat, by omega⟩
  simp only [Int.toNat_of_nonneg h0] at h
  exact ⟨(bt tbl y).toNat, (Int.toNat_of_nonneg h.2.1).symm, h.1, by omega⟩
set_option maxRecDepth 100000 in
theorem len64_j (k : Nat) (x : Nat) (y : Int) (hx : x < 4294967296) (hy0 : 0 ≤ y) (hy1 : y ≤ 32) : ∃ b : Nat, bits_Len64.j0 (k + 1) (x : Int) y = some (y + (b : Int)) ∧ IsLen x b ∧ b ≤ 32 := by
  rw [bits_Len64.j0]
  by_cases h1 : x ≥ 65536
  · rw [if_pos (by omega)]
    by_cases h2 : x / 65536 ≥ 256
    · obtain ⟨b, e, hb, hle⟩ := tbl_is (((x : Int) / 65536 / 256) % 256) (by omega) (by omega)
      rw [if_pos (by omega), if_pos (by omega), if_pos (by omega), e, w64 (y + 16) (by omega) (by omega), w64 (y + 16 + 8) (by omega) (by omega), w64 (b : Int) (by omega) (by omega), w64 _ (by omega) (by omega)]
      refine ⟨b + 24, by congr 1; omega, ?_, by omega⟩
      rw [show (((x : Int) / 65536 / 256) % 256).toNat = x / 2 ^ 24 from by omega] at hb
      exact hb.shift (by omega)
    · obtain ⟨b, e, hb, hle⟩ := tbl_is (((x : Int) / 65536) % 256) (by omega) (by omega)
      rw [if_neg (by omega), if_pos (by omega), if_pos (by omega), e, w64 (y + 16) (by omega) (by omega), w64 (b : Int) (by omega) (by omega), w64 _ (by omega) (by omega)]
      refine ⟨b + 16, by congr 1; omega, ?_, by omega⟩
      rw [show (((x : Int) / 65536) % 256).toNat = x / 2 ^ 16 from by omega] at hb
      exact hb.shift (by omega)
  · rw [if_neg (by omega)]
    by_cases h2 : x ≥ 256
    · obtain ⟨b, e, hb, hle⟩ := tbl_is (((x : Int) / 256) % 256) (by omega) (by omega)
      rw [if_pos (by omega), if_pos (by omega), if_pos (by omega), e, w64 (y + 8) (by omega) (by omega), w64 (b : Int) (by omega) (by omega), w64 _ (by omega) (by omega)]
      refine ⟨b + 8, by congr 1; omega, ?_, by omega⟩
      rw [show (((x : Int) / 256) % 256).toNat = x / 2 ^ 8 from by omega] at hb
      exact hb.shift (by omega)
    · obtain ⟨b, e, hb, hle⟩ := tbl_is ((x : Int) % 256) (by omega) (by omega)
      rw [if_neg (by omega), if_pos (by omega), if_pos (by omega), e, w64 (b : Int) (by omega) (by omega), w64 _ (by omega) (by omega)]
      refine ⟨b, rfl, ?_, by omega⟩
      rw [show ((x : Int) % 256).toNat = x from by omega] at hb
      exact hb
theorem len64_is (k : Nat) (x : Nat) (hx : x < 18446744073709551616) (hk : 1 ≤ k) : ∃ b : Nat, bits_Len64.f k (x : Int) = some (b : Int) ∧ IsLen x b ∧ b ≤ 64 := by
  obtain ⟨k, rfl⟩ : ∃ m, k = m + 1 := ⟨k - 1, by omega⟩
  unfold bits_Len64.f
  by_cases h : x ≥ 4294967296
  · obtain ⟨b, e, hb, hle⟩ := len64_j k (x / 4294967296) 32 (by omega) (by decide) (by decide)
    rw [if_pos (by omega), show (x : Int) / 4294967296 = ((x / 4294967296 : Nat) : Int) from by omega, e]
    refine ⟨b + 32, by congr 1; omega, ?_, by omega⟩
    rw [show x / 4294967296 = x / 2 ^ 32 from by omega] at hb
    exact hb.shift (by omega)
  · obtain ⟨b, e, hb, hle⟩ := len64_j k x 0 (by omega) (by decide) (by decide)
    rw [if_neg (by omega), e]
    exact ⟨b, by congr 1; omega, hb, by omega⟩
theorem len_is (k : Nat) (x : Nat) (hx : x < 18446744073709551616) (hk : 1 ≤ k) : varint_Len.f k (x : Int) = some ((vput 9 x).length : Int) := by
  obtain ⟨b, e, hb, hle⟩ := len64_is k x hx hk
  have hl := vput_len 9 x b (by simpa using hx) hb
  unfold varint_Len.f
  rw [e]
  simp only [Option.bind_some]
  rw [w64 ((b : Int) + 7) (by omega) (by omega), w64 ((b : Int) + 7 - 1) (by omega) (by omega), Int.tdiv_eq_ediv_of_nonneg (by omega), w64 _ (by omega) (by omega), hl]
  unfold mx
  congr 1
  split <;> omega
theorem take_set_succ (xs : List Int) (i : Nat) (a : Int) (h : i < xs.length) : (xs.set i a).take (i + 1) = xs.take i ++ [a] := by
  rw [List.take_succ_eq_append_getElem (by rw [List.length_set]; exact h), List.getElem_set_self, List.take_set, List.set_eq_of_length_le (by rw [List.length_take]; omega)]
theorem set_last (xs : List Int) (i : Nat) (a : Int) (h : xs.length = i + 1) : xs.set i a = xs.take i ++ [a] := by
  rw [← take_set_succ xs i a (by omega), List.take_of_length_le (by rw [List.length_set]; omega)]
/-- From digit i on, d digits more: all are written, the last one's mark is struck. -/
theorem put_loop (d : Nat) : ∀ (i x k : Nat) (xs : List Int), xs.length = i + (d + 1) → xs.length ≤ 10 → x < 18446744073709551616 → d + 2 ≤ k →
    varint_Put.l0 k (x : Int) (xs.length : Int) xs (xs.length : Int) (i : Int) = some (xs.take i ++ vputM (d + 1) x) := by
  induction d with
  | zero =>
    intro i x k xs hl h10 hx hk
    obtain ⟨k, rfl⟩ : ∃ m, k = m + 2 := ⟨k - 2, by omega⟩
    simp only [varint_Put.l0]
    rw [if_pos (by omega), if_pos (by omega), if_pos (by omega), w64 ((i : Int) + 1) (by omega) (by omega), if_neg (by omega), if_pos (by rw [w64 _ (by omega) (by omega)]; omega), if_pos (by rw [w64 _ (by omega) (by omega), List.length_set]; omega)]
    rw [w64 _ (by omega) (by omega)]
    rw [show (((xs.length : Int) - 1).toNat) = i from by omega, Int.toNat_natCast, show ((xs.length : Int) - 1) = (i : Int) from by omega, rd_nat]
    rw [Int.tmod_eq_emod_of_nonneg (by omega), or128 _ (by omega) (by omega)]
    have hs : (xs.set i ((x : Int) % 128 % 256 + 128)).getD i 0 = (x : Int) % 128 % 256 + 128 := by
      rw [List.getD_eq_getElem?_getD, List.getElem?_set_self (by omega)]; rfl
    rw [hs, andNot128 _ (by omega) (by omega), List.set_set]
    congr 1
    have e : xs.set i (((x : Int) % 128 % 256 + 128) % 128) = xs.take i ++ [((x : Int) % 128 % 256 + 128) % 128] := by
      exact set_last xs i _ (by omega)
    rw [e]
    simp only [vputM]
    congr 2
    omega
  | succ d ih =>
    intro i x k xs hl h10 hx hk
    obtain ⟨k, rfl⟩ : ∃ m, k = m + 1 := ⟨k - 1, by omega⟩
    simp only [varint_Put.l0]
    rw [if_pos (by omega), if_pos (by omega), if_pos (by omega), w64 ((i : Int) + 1) (by omega) (by omega), Int.toNat_natCast]
    rw [Int.tmod_eq_emod_of_nonneg (by omega), or128 _ (by omega) (by omega)]
    have := ih (i + 1) (x / 128) k (xs.set i ((x : Int) % 128 % 256 + 128)) (by rw [List.length_set]; omega) (by rw [List.length_set]; omega) (by omega) (by omega)
    rw [List.length_set] at this
    rw [show (x : Int) / 128 = ((x / 128 : Nat) : Int) from by omega, show (i : Int) + 1 = ((i + 1 : Nat) : Int) from by omega, this]
    congr 1
    rw [take_set_succ xs i _ (by omega), List.append_assoc]
    simp only [List.cons_append, List.nil_append, vputM]
    congr 2
    omega
theorem put_is (x k : Nat) (hx : x < 18446744073709551616) (hk : 20 ≤ k) : varint_Put.f k (x : Int) = some (vput 9 x) := by
  have hp := vput_len_pos 9 x
  have hle := vput_len_le 9 x
  unfold varint_Put.f
  rw [len_is k x hx (by omega)]
  simp only [Option.bind_some]
  rw [if_pos (by omega), if_pos (by omega), Int.toNat_natCast]
  have h := put_loop ((vput 9 x).length - 1) 0 x k (List.replicate (vput 9 x).length 0) (by rw [List.length_replicate]; omega) (by rw [List.length_replicate]; omega) hx (by omega)
  rw [List.length_replicate, show (vput 9 x).length - 1 + 1 = (vput 9 x).length from by omega, vputM_vput 9 x (by simpa using hx)] at h
  simpa using h

theorem same_loop (xs ys : List Int) (hl : xs.length = ys.length) (hm : xs.length ≤ 9223372036854775806) (d : Nat) : ∀ (i k : Nat), i + d = xs.length → d + 1 ≤ k →
    regcertref01_Same.l0 k xs ys (i : Int) = some (decide (xs.drop i = ys.drop i)) := by
  induction d with
  | zero =>
    intro i k hi hk
    obtain ⟨k, rfl⟩ : ∃ m, k = m + 1 := ⟨k - 1, by omega⟩
    simp only [regcertref01_Same.l0]
    rw [if_neg (by omega), List.drop_eq_nil_of_le (by omega), List.drop_eq_nil_of_le (by omega)]
    rfl
  | succ d ih =>
    intro i k hi hk
    obtain ⟨k, rfl⟩ : ∃ m, k = m + 1 := ⟨k - 1, by omega⟩
    simp only [regcertref01_Same.l0]
    rw [if_pos (by omega), if_pos (by omega), if_pos (by omega), rd_nat, rd_nat, w64 _ (by omega) (by omega), show (i : Int) + 1 = ((i + 1 : Nat) : Int) from by omega, ih (i + 1) k (by omega) (by omega)]
    rw [drop_at (xs := xs) (i := i) (by omega), drop_at (xs := ys) (i := i) (by omega)]
    by_cases h : xs.getD i 0 = ys.getD i 0
    · rw [if_pos h]
      congr 1
      rw [decide_eq_decide, List.cons.injEq]
      exact ⟨fun hh => ⟨h, hh⟩, fun hh => hh.2⟩
    · rw [if_neg h]
      congr 1
      exact (decide_eq_false (fun hh => h (List.cons.inj hh).1)).symm
theorem same_is (xs ys : List Int) (k : Nat) (hm : xs.length ≤ 9223372036854775806) (hk : xs.length + 1 ≤ k) : regcertref01_Same.f k xs ys = some (decide (xs = ys)) := by
  unfold regcertref01_Same.f
  by_cases hl : xs.length = ys.length
  · rw [if_pos (by omega)]
    have := same_loop xs ys hl hm xs.length 0 k (by omega) hk
    simpa using this
  · rw [if_neg (by omega)]
    congr 1
    exact (decide_eq_false (fun h => hl (by rw [h]))).symm

def zig (n : Int) : Int := if n ≥ 0 then 2 * n else -2 * n - 1
def unzig (u : Int) : Int := if u % 2 = 0 then u / 2 else -(u / 2) - 1
theorem xor_ones (x : Nat) (h : x < 18446744073709551616) : x ^^^ 18446744073709551615 = 18446744073709551615 - x := by
  have e : (BitVec.ofNat 64 x ^^^ BitVec.allOnes 64).toNat = (~~~ BitVec.ofNat 64 x).toNat := by rw [BitVec.xor_allOnes]
  rw [BitVec.toNat_not, BitVec.toNat_xor, BitVec.toNat_ofNat, BitVec.toNat_allOnes, Nat.mod_eq_of_lt (by simpa using h)] at e
  simpa using e
theorem zigzag_is (n : Int) (h0 : -9223372036854775808 ≤ n) (h1 : n ≤ 9223372036854775807) : varint_Zigzag.f n = some (zig n) := by
  unfold varint_Zigzag.f zig
  congr 1
  by_cases h : n ≥ 0
  · rw [if_pos h, wu64 n (by omega) (by omega), show n / 9223372036854775808 = 0 from by omega, wu64 (n * 2) (by omega) (by omega), wu64 0 (by omega) (by omega)]
    obtain ⟨m, rfl⟩ := Int.eq_ofNat_of_zero_le h
    have e := u64_xor_nat (m * 2) 0 (by omega) (by omega)
    rw [Nat.xor_zero] at e
    rw [show ((m : Int) * 2) = ((m * 2 : Nat) : Int) from by omega, show (0 : Int) = ((0 : Nat) : Int) from rfl, e]
    omega
  · rw [if_neg h, show n / 9223372036854775808 = -1 from by omega, IntKind.wrap_u64, IntKind.wrap_u64, IntKind.wrap_u64]
    obtain ⟨m, hm⟩ : ∃ m : Nat, (m : Int) = -2 * n - 1 := ⟨(-2 * n - 1).toNat, by omega⟩
    rw [show n % 18446744073709551616 * 2 % 18446744073709551616 = ((18446744073709551615 - m : Nat) : Int) from by omega, show (-1 : Int) % 18446744073709551616 = ((18446744073709551615 : Nat) : Int) from by decide]
    rw [u64_xor_nat _ _ (by omega) (by decide), xor_ones _ (by omega)]
    omega
theorem and_one (x : Nat) (h : x < 18446744073709551616) : Go.bits .and .u64 (x : Int) 1 = ((x % 2 : Nat) : Int) := by
  have e := u64_and_nat x 1 h (by decide)
  rw [Nat.and_one_is_mod] at e
  exact e
theorem xor_i64_zero (x : Int) (h0 : 0 ≤ x) (h1 : x ≤ 9223372036854775807) : Go.bits .xor .i64 x 0 = x := by
  unfold Go.bits
  have e : (BitVec.ofInt IntKind.i64.bits x ^^^ BitVec.ofInt IntKind.i64.bits 0) = BitVec.ofInt IntKind.i64.bits x := by
    rw [show BitVec.ofInt IntKind.i64.bits 0 = 0#_ from by rfl, BitVec.xor_zero]
  simp only [e]
  rw [BitVec.toNat_ofInt, IntKind.wrap_i64]
  simp only [IntKind.bits]
  omega
theorem xor_i64_ones (x : Int) (h0 : 0 ≤ x) (h1 : x ≤ 9223372036854775807) : Go.bits .xor .i64 x (-1) = -x - 1 := by
  unfold Go.bits
  have e : (BitVec.ofInt IntKind.i64.bits x ^^^ BitVec.ofInt IntKind.i64.bits (-1)) = ~~~ (BitVec.ofInt IntKind.i64.bits x) := by
    rw [show BitVec.ofInt IntKind.i64.bits (-1) = BitVec.allOnes _ from by rfl, BitVec.xor_allOnes]
  simp only [e]
  rw [BitVec.toNat_not, BitVec.toNat_ofInt, IntKind.wrap_i64]
  simp only [IntKind.bits]
  omega
theorem unzigzag_is (u : Int) (h0 : 0 ≤ u) (h1 : u < 18446744073709551616) : varint_Unzigzag.f u = some (unzig u) := by
  unfold varint_Unzigzag.f unzig
  congr 1
  obtain ⟨m, rfl⟩ := Int.eq_ofNat_of_zero_le h0
  rw [and_one m (by omega), w64 ((m : Int) / 2) (by omega) (by omega), w64 ((m % 2 : Nat) : Int) (by omega) (by omega)]
  by_cases h : (m : Int) % 2 = 0
  · rw [if_pos h, show -((m % 2 : Nat) : Int) = 0 from by omega, w64 0 (by omega) (by omega), xor_i64_zero _ (by omega) (by omega)]
  · rw [if_neg h, show -((m % 2 : Nat) : Int) = -1 from by omega, w64 (-1) (by omega) (by omega), xor_i64_ones _ (by omega) (by omega)]
theorem unzig_zig (n : Int) : unzig (zig n) = n := by unfold unzig zig; split <;> split <;> omega
theorem zig_unzig (u : Int) (h : 0 ≤ u) : zig (unzig u) = u := by unfold unzig zig; split <;> split <;> omega
theorem zig_range (n : Int) (h0 : -9223372036854775808 ≤ n) (h1 : n ≤ 9223372036854775807) : 0 ≤ zig n ∧ zig n < 18446744073709551616 := by unfold zig; split <;> omega
theorem unzig_range (u : Int) (h0 : 0 ≤ u) (h1 : u < 18446744073709551616) : -9223372036854775808 ≤ unzig u ∧ unzig u ≤ 9223372036854775807 := by unfold unzig; split <;> omega

theorem awake_is (k : Nat) (hk : 20 ≤ k) : regcertlaw01_awake.f k = some true := by
  unfold regcertlaw01_awake.f
  rw [get_is [172, 2, 9] (by decide) k hk, get_is [128, 0] (by decide) k hk, get_is [128] (by decide) k hk]
  simp only [Option.bind_some]
  rw [show (300 : Int) = ((300 : Nat) : Int) from rfl, put_is 300 k (by decide) hk, len_is k 300 (by decide) (by omega)]
  simp only [Option.bind_some]
  rw [same_is _ _ k (by decide) (by simp only [show (vput 9 300).length = 2 from rfl]; omega)]
  rw [show decide (vput 9 300 = [172, 2]) = true from rfl]
  simp only [Option.bind_some]
  rw [zigzag_is (-1) (by decide) (by decide), zigzag_is 1 (by decide) (by decide), unzigzag_is 1 (by decide) (by decide)]
  rfl

end Go.Proofs.Ytkmbmmbhpodbeaa.LVarintCanonical
namespace Go.Proofs.Ytkmbmmbhpodbeaa.Pure
open Go.RowKit Go.Proofs.Ytkmbmmbhpodbeaa.PVarintCanonical Go.Proofs.YtkmbmmbhpodbeaaW.PrintWords Go.Proofs.YtkmbmmbhpodbeaaW.PrintLast Go.Proofs.Ytkmbmmbhpodbeaa.VT Go.Proofs.Ytkmbmmbhpodbeaa.LVarintCanonical

theorem same_eq (x y : Nat) (hx : x < 18446744073709551616) (hy : y < 18446744073709551616) : (decide (vput 9 x = vput 9 y) == ((x : Int) == (y : Int))) = true := by
  by_cases h : x = y
  · subst h; simp
  · rw [decide_eq_false (fun hh => h (vput_inj hx hy hh))]
    have : ((x : Int) == (y : Int)) = false := by simp; omega
    rw [this]; rfl
theorem VarintCanonical : regcertlaw01_VarintCanonical.Pure := by
  intro l0 a1 a2 hm hl hb h1 h2
  have hb := bytes_of hb
  have h1 := u64_of h1
  have h2 := u64_of h2
  obtain ⟨x, rfl⟩ := Int.eq_ofNat_of_zero_le h1.1
  obtain ⟨y, rfl⟩ := Int.eq_ofNat_of_zero_le h2.1
  have hlx := vput_len_le 9 x
  have hx : x < 18446744073709551616 := by omega
  have hy : y < 18446744073709551616 := by omega
  refine ⟨31, ?_⟩
  unfold regcertlaw01_VarintCanonical.f
  rw [awake_is 31 (by decide)]
  simp only [Option.bind_some, if_true]
  generalize decide ((l0.length : Int) > 1000) = b
  cases b with
  | true => simp only [regcertlaw01_VarintCanonical.j0, if_true]; rw [awake_is 30 (by decide)]; rfl
  | false =>
    simp only [regcertlaw01_VarintCanonical.j0]
    rw [if_neg (by decide), get_is l0 hb 30 (by decide), put_is x 30 hx (by decide), put_is y 30 hy (by decide)]
    simp only [Option.bind_some]
    rw [same_is _ _ 30 (by omega) (by omega)]
    simp only [Option.bind_some, same_eq x y hx hy]
    rcases vdec_spec l0 0 (by decide) hb with ⟨e, he, hd⟩ | ⟨n, m, hd, hn, _, hm0, hml, hkm, ht⟩
    · rw [hd]
      rcases he with rfl | rfl <;> rfl
    · rw [hd]
      have hn' : n < 18446744073709551616 := by simpa using hn
      simp only [if_true]
      rw [if_pos (by omega), if_pos (by omega), put_is n 30 hn' (by decide)]
      simp only [Option.bind_some]
      rw [if_pos (by omega), show (((0 + m : Nat) : Int)).toNat = m from by omega, ht, same_is _ _ 30 (by have := vput_len_le 9 n; omega) (by have := vput_len_le 9 n; omega), decide_eq_true rfl]
      simp only [Option.bind_some, if_true]

end Go.Proofs.Ytkmbmmbhpodbeaa.Pure
