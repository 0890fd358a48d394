/- The variable-length integers: encoding. -/
import Derived.Test.YtgdfhpknhcjipaaVa
namespace Go.Proofs.Ytgdfhpknhcjipaa.Cu
open Go Go.SX Go.Proofs.Ytgdfhpknhcjipaa.VT
set_option maxRecDepth 100000
set_option linter.unusedVariables false

def tbl : List UInt8 := [0, 1, 2, 2] ++ List.replicate 4 3 ++ List.replicate 8 4 ++ List.replicate 16 5 ++ List.replicate 32 6 ++ List.replicate 64 7 ++ List.replicate 128 8
instance (n b : Nat) : Decidable (IsLen n b) := by unfold IsLen; infer_instance
theorem tbl_all : ∀ y : Fin 256, IsLen y.val (tbl.getD y.val 0).toNat ∧ (tbl.getD y.val 0).toNat ≤ 8 := by decide +kernel
theorem tbl_is {b : ByteArray} (hb : b.data.toList = tbl) (y : Int) (h0 : 0 ≤ y) (h1 : y < 256) : ∃ u, b[y.toNat]? = some u ∧ IsLen y.toNat u.toNat ∧ u.toNat ≤ 8 := by
  have hl : b.size = 256 := by rw [← ByteArray.size_data, ← Array.length_toList, hb]; decide +kernel
  have hi : y.toNat < b.size := by omega
  have h := tbl_all ⟨y.toNat, by omega⟩
  refine ⟨tbl.getD y.toNat 0, ?_, h⟩
  have e : b[y.toNat]'hi = tbl.getD y.toNat 0 := by
    have : b[y.toNat]'hi = b.data[y.toNat]'hi := rfl
    rw [this, ← Array.getElem_toList, List.getD_eq_getElem?_getD]
    simp only [hb]
    rw [List.getElem?_eq_getElem (by rw [← hb]; simpa using hi)]
    rfl
  rw [getElem?_pos b y.toNat hi, e]

theorem tbl_vc {b : ByteArray} {y : Int} {K : UInt8 → Prop} (hb : b.data.toList = tbl) (h0 : 0 ≤ y) (h1 : y < 256) (h : ∀ u : UInt8, IsLen y.toNat u.toNat → u.toNat ≤ 8 → K u) : 0 ≤ y ∧ ∃ u, b[y.toNat]? = some u ∧ K u := by
  obtain ⟨u, hu, hl, hle⟩ := tbl_is hb y h0 h1
  exact ⟨h0, u, hu, h u hl hle⟩
theorem len_fin {x : Nat} {y n : Int} {u : Nat} (s : Nat) (hl : IsLen y.toNat u) (hu : u ≤ 8) (hn : n = u + s) (hy : y.toNat = x / 2 ^ s) (hs : s = 0 ∨ 2 ^ s ≤ x) (h64 : s ≤ 56) :
    ∃ b : Nat, SV.v (.int .i64 n) = .v (.int .i64 b) ∧ IsLen x b ∧ b ≤ 64 := by
  refine ⟨u + s, by rw [hn]; simp, ?_, by omega⟩
  rw [hy] at hl
  rcases hs with rfl | hs
  · simpa using hl
  · exact hl.shift hs
set_option maxHeartbeats 8000000 in
theorem len64_fn (G : Gh) (x : Nat) (hx : x < 18446744073709551616) :
    Ct Try.prog 61 [.v (.int .u64 x)] [] G fun sv H' G' => (∃ b : Nat, sv = .v (.int .i64 b) ∧ IsLen x b ∧ b ≤ 64) ∧ H' = [] ∧ G' = G := by
  refine fn_of follows [] Try.func61 rfl rfl fun E hE => ?_
  repeat' ((fail_if_success with_reducible refine Stop.mk ?_); (conv => whnf); with_reducible first | refine br_t ?_ | refine br_f ?_ | refine br_nn ?_ | refine br_ns ?_ | refine br_not ?_ | refine br_d (fun h => ?_) (fun h => ?_) | refine br_e (fun h => ?_) (fun h => ?_) | refine br_n (fun h => ?_) (fun h => ?_) | refine drw (by kernel_rfl) ?_ | refine chk (by kernel_rfl) ?_ | refine stop ?_)
  all_goals refine Stop.mk ?_
  all_goals
    refine tbl_vc (by decide +kernel) (by rw [IntKind.wrap_u8]; omega) (by rw [IntKind.wrap_u8]; omega) fun u hl hle => ?_
    have hu := u.toNat_lt
    repeat' ((fail_if_success with_reducible refine Stop.mk ?_); (conv => whnf); with_reducible first | refine br_t ?_ | refine br_f ?_ | refine br_nn ?_ | refine br_ns ?_ | refine br_not ?_ | refine br_d (fun h => ?_) (fun h => ?_) | refine br_e (fun h => ?_) (fun h => ?_) | refine br_n (fun h => ?_) (fun h => ?_) | refine drw (by kernel_rfl) ?_ | refine chk (by kernel_rfl) ?_ | refine stop ?_)
    all_goals refine Stop.mk ?_
    refine fin_id hE 0 rfl rfl rfl rfl ⟨?_, rfl, rfl⟩
    simp only [IntKind.wrap_i64]
    rw [IntKind.wrap_u8] at hl
    first
      | exact len_fin 0 hl hle (by omega) (by omega) (by omega) (by omega)
      | exact len_fin 8 hl hle (by omega) (by omega) (by omega) (by omega)
      | exact len_fin 16 hl hle (by omega) (by omega) (by omega) (by omega)
      | exact len_fin 24 hl hle (by omega) (by omega) (by omega) (by omega)
      | exact len_fin 32 hl hle (by omega) (by omega) (by omega) (by omega)
      | exact len_fin 40 hl hle (by omega) (by omega) (by omega) (by omega)
      | exact len_fin 48 hl hle (by omega) (by omega) (by omega) (by omega)
      | exact len_fin 56 hl hle (by omega) (by omega) (by omega) (by omega)

/-- The length of a number's encoding. -/
def vlen (x : Nat) : Nat := (vput 9 x).length
theorem len_fn (G : Gh) (x : Nat) (hx : x < 18446744073709551616) :
    Ct Try.prog 44 [.v (.int .u64 x)] [] G fun sv H' G' => sv = .v (.int .i64 (vlen x)) ∧ H' = [] ∧ G' = G := by
  refine fn_of follows [] Try.func44 rfl rfl fun E hE => ?_
  repeat' ((fail_if_success with_reducible refine Stop.mk ?_); (conv => whnf); with_reducible first | refine br_t ?_ | refine br_f ?_ | refine br_nn ?_ | refine br_ns ?_ | refine br_not ?_ | refine br_d (fun h => ?_) (fun h => ?_) | refine br_e (fun h => ?_) (fun h => ?_) | refine br_n (fun h => ?_) (fun h => ?_) | refine drw (by kernel_rfl) ?_ | refine chk (by kernel_rfl) ?_ | refine stop ?_)
  all_goals refine Stop.mk ?_
  refine call_fn [] (len64_fn G x hx) rfl trivial (by decide) ?_
  rintro sv H' G' ⟨⟨b, rfl, hl, hb⟩, rfl, rfl⟩ _
  refine ⟨Nat.le_refl _, ?_⟩
  repeat' ((fail_if_success with_reducible refine Stop.mk ?_); (conv => whnf); with_reducible first | refine br_t ?_ | refine br_f ?_ | refine br_nn ?_ | refine br_ns ?_ | refine br_not ?_ | refine br_d (fun h => ?_) (fun h => ?_) | refine br_e (fun h => ?_) (fun h => ?_) | refine br_n (fun h => ?_) (fun h => ?_) | refine drw (by kernel_rfl) ?_ | refine chk (by kernel_rfl) ?_ | refine stop ?_)
  all_goals refine Stop.mk ?_
  refine fin_id hE 0 rfl rfl rfl rfl ⟨?_, rfl, rfl⟩
  have h := vput_len 9 x b (by simpa using hx) hl
  simp only [vlen, h, IntKind.wrap_i64]
  rw [Int.tdiv_eq_ediv_of_nonneg (by omega)]
  exact svi (by split <;> omega)

/-! ### zigzag -/
def zig (n : Int) : Int := if n ≥ 0 then 2 * n else -2 * n - 1
def unzig (u : Int) : Int := if u % 2 = 0 then u / 2 else -(u / 2) - 1
theorem xor_ones (x : Nat) (h : x < 18446744073709551616) : x ^^^ 18446744073709551615 = 18446744073709551615 - x := by
  have e : (BitVec.ofNat 64 x ^^^ BitVec.allOnes 64).toNat = (~~~ BitVec.ofNat 64 x).toNat := by rw [BitVec.xor_allOnes]
  rw [BitVec.toNat_not, BitVec.toNat_xor, BitVec.toNat_ofNat, BitVec.toNat_allOnes, Nat.mod_eq_of_lt (by simpa using h)] at e
  simpa using e
theorem and_one (x : Nat) (h : x < 18446744073709551616) : Go.bits .and .u64 (x : Int) 1 = ((x % 2 : Nat) : Int) := by
  have e := u64_and_nat x 1 h (by decide)
  rw [Nat.and_one_is_mod] at e
  exact e
theorem xor_i64_zero (x : Int) (h0 : 0 ≤ x) (h1 : x ≤ 9223372036854775807) : Go.bits .xor .i64 x 0 = x := by
  unfold Go.bits
  have e : (BitVec.ofInt IntKind.i64.bits x ^^^ BitVec.ofInt IntKind.i64.bits 0) = BitVec.ofInt IntKind.i64.bits x := by
    rw [show BitVec.ofInt IntKind.i64.bits 0 = 0#_ from by rfl, BitVec.xor_zero]
  simp only [e]
  rw [BitVec.toNat_ofInt, IntKind.wrap_i64]
  simp only [IntKind.bits]
  omega
theorem xor_i64_ones (x : Int) (h0 : 0 ≤ x) (h1 : x ≤ 9223372036854775807) : Go.bits .xor .i64 x (-1) = -x - 1 := by
  unfold Go.bits
  have e : (BitVec.ofInt IntKind.i64.bits x ^^^ BitVec.ofInt IntKind.i64.bits (-1)) = ~~~ (BitVec.ofInt IntKind.i64.bits x) := by
    rw [show BitVec.ofInt IntKind.i64.bits (-1) = BitVec.allOnes _ from by rfl, BitVec.xor_allOnes]
  simp only [e]
  rw [BitVec.toNat_not, BitVec.toNat_ofInt, IntKind.wrap_i64]
  simp only [IntKind.bits]
  omega
theorem unzig_zig (n : Int) : unzig (zig n) = n := by unfold unzig zig; split <;> split <;> omega
theorem zig_unzig (u : Int) (h : 0 ≤ u) : zig (unzig u) = u := by unfold unzig zig; split <;> split <;> omega
theorem zig_range (n : Int) (h0 : -9223372036854775808 ≤ n) (h1 : n ≤ 9223372036854775807) : 0 ≤ zig n ∧ zig n < 18446744073709551616 := by unfold zig; split <;> omega
theorem unzig_range (u : Int) (h0 : 0 ≤ u) (h1 : u < 18446744073709551616) : -9223372036854775808 ≤ unzig u ∧ unzig u ≤ 9223372036854775807 := by unfold unzig; split <;> omega

/-! ### Put -/
def putB (x : Nat) : List Int := vput 9 x
/-- m digits, all with the mark. -/
def vputA : Nat → Nat → List Int
  | 0, _ => []
  | m + 1, x => ((x % 128 + 128 : Nat) : Int) :: vputA m (x / 128)
theorem vputA_length : ∀ m x, (vputA m x).length = m
  | 0, _ => rfl
  | m + 1, x => by simp [vputA, vputA_length m]
theorem vputA_M : ∀ m x, (vputA (m + 1) x).set m ((vputA (m + 1) x).getD m 0 % 128) = vputM (m + 1) x
  | 0, x => by simp [vputA, vputM]
  | m + 1, x => by
    have := vputA_M m (x / 128)
    rw [show vputA (m + 1 + 1) x = ((x % 128 + 128 : Nat) : Int) :: vputA (m + 1) (x / 128) from rfl, show vputM (m + 1 + 1) x = ((x % 128 + 128 : Nat) : Int) :: vputM (m + 1) (x / 128) from rfl, ← this]
    simp
theorem take_set_succ (xs : List Int) (i : Nat) (a : Int) (h : i < xs.length) : (xs.set i a).take (i + 1) = xs.take i ++ [a] := by
  rw [List.take_succ_eq_append_getElem (by rw [List.length_set]; exact h), List.getElem_set_self, List.take_set, List.set_eq_of_length_le (by rw [List.length_take]; omega)]
theorem byts_set (xs : List Int) (i : Nat) (a : Int) : (byts xs).set i (.int .u8 a) = byts (xs.set i a) := by simp [byts, List.map_set]
theorem byts_rep (n : Nat) : List.replicate n (Value.int .u8 0) = byts (List.replicate n 0) := by simp [byts]
theorem byts_get {xs : List Int} {i : Nat} (h : i < xs.length) : (byts xs)[i]? = some (.int .u8 (xs.getD i 0)) := by simp [byts, List.getElem?_eq_getElem h]
/-- The bytes so far: i digits are written. -/
def InP (n x : Nat) (i y : Nat) (xs : List Int) : Prop := xs.length = n ∧ xs.take i ++ vputA (n - i) y = vputA n x ∧ y < 18446744073709551616
theorem InP_step {n x i y : Nat} {xs : List Int} (h : InP n x i y xs) (hi : i < n) : InP n x (i + 1) (y / 128) (xs.set i ((y : Int) % 128 % 256 + 128)) := by
  obtain ⟨h1, h2, h3⟩ := h
  refine ⟨by simp [h1], ?_, by omega⟩
  rw [take_set_succ xs i _ (by omega), ← h2, show n - i = (n - (i + 1)) + 1 by omega]
  simp only [vputA, List.append_assoc, List.singleton_append]
  congr 2
  omega
theorem InP_last {x : Nat} {y : Nat} {xs : List Int} (hx : x < 18446744073709551616) (h : InP (vput 9 x).length x (vput 9 x).length y xs) : xs.set ((vput 9 x).length - 1) (xs.getD ((vput 9 x).length - 1) 0 % 128) = vput 9 x := by
  obtain ⟨h1, h2, _⟩ := h
  have hpos := vput_len_pos 9 x
  rw [Nat.sub_self, List.take_of_length_le (by omega)] at h2
  simp only [vputA, List.append_nil] at h2
  subst h2
  have hm := vputM_vput 9 x (by simpa using hx)
  obtain ⟨m, hl⟩ : ∃ m, (vput 9 x).length = m + 1 := ⟨(vput 9 x).length - 1, by omega⟩
  rw [hl] at hm ⊢
  rw [Nat.add_sub_cancel, vputA_M]
  exact hm
theorem InP_range {n x i y : Nat} {xs : List Int} (h : InP n x n y xs) (hi : i < n) : 0 ≤ xs.getD i 0 ∧ xs.getD i 0 ≤ 255 := by
  obtain ⟨h1, h2, _⟩ := h
  rw [Nat.sub_self, List.take_of_length_le (by omega)] at h2
  simp only [vputA, List.append_nil] at h2
  subst h2
  have key : ∀ (m y i : Nat), i < m → 0 ≤ (vputA m y).getD i 0 ∧ (vputA m y).getD i 0 ≤ 255 := by
    intro m
    induction m with
    | zero => intro y i hi; omega
    | succ m ih =>
      intro y i hi
      cases i with
      | zero => simp [vputA]; omega
      | succ i => simpa [vputA] using ih (y / 128) i (by omega)
  exact key n x i hi

set_option maxHeartbeats 8000000 in
theorem put_fn (G : Gh) (x : Nat) (hx : x < 18446744073709551616) :
    Ct Try.prog 59 [.v (.int .u64 x)] [] G fun sv H' G' => (∃ A c, sv = .v (.slice A (putB x).length c) ∧ SlB G' A c (putB x)) ∧ H' = [] := by
  refine fn_of follows [] Try.func59 rfl rfl fun E hE => ?_
  have hpos := vput_len_pos 9 x
  have hle := vput_len_le 9 x
  repeat' ((fail_if_success with_reducible refine Stop.mk ?_); (conv => whnf); with_reducible first | refine br_t ?_ | refine br_f ?_ | refine br_nn ?_ | refine br_ns ?_ | refine br_not ?_ | refine br_d (fun h => ?_) (fun h => ?_) | refine br_e (fun h => ?_) (fun h => ?_) | refine br_n (fun h => ?_) (fun h => ?_) | refine drw (by kernel_rfl) ?_ | refine chk (by kernel_rfl) ?_ | refine stop ?_)
  all_goals refine Stop.mk ?_
  refine call_fn [] (len_fn G x hx) rfl trivial (by decide) ?_
  rintro sv H' G' ⟨rfl, rfl, rfl⟩ _
  refine ⟨Nat.le_refl _, ?_⟩
  unfold vlen
  have hlast := @InP_last x
  have h0 : InP (vput 9 x).length x 0 x (List.replicate (vput 9 x).length 0) := ⟨by simp, by simp, hx⟩
  generalize hn : (vput 9 x).length = n at *
  repeat' ((fail_if_success with_reducible refine Stop.mk ?_); (conv => whnf); with_reducible first | refine br_t ?_ | refine br_f ?_ | refine br_nn ?_ | refine br_ns ?_ | refine br_not ?_ | refine br_d (fun h => ?_) (fun h => ?_) | refine br_e (fun h => ?_) (fun h => ?_) | refine br_n (fun h => ?_) (fun h => ?_) | refine drw (by kernel_rfl) ?_ | refine chk (by kernel_rfl) ?_ | refine stop ?_)
  all_goals refine Stop.mk ?_
  refine ⟨rfl, ⟨by omega, by omega⟩, ?_⟩
  rw [Int.toNat_natCast, byts_rep]
  repeat' ((fail_if_success with_reducible refine Stop.mk ?_); (conv => whnf); with_reducible first | refine br_t ?_ | refine br_f ?_ | refine br_nn ?_ | refine br_ns ?_ | refine br_not ?_ | refine br_d (fun h => ?_) (fun h => ?_) | refine br_e (fun h => ?_) (fun h => ?_) | refine br_n (fun h => ?_) (fun h => ?_) | refine drw (by kernel_rfl) ?_ | refine chk (by kernel_rfl) ?_ | refine stop ?_)
  all_goals refine Stop.mk ?_
  refine loop_rule follows [] (α := Nat) (fun k s => ∃ y xs, (k ≤ n ∧ InP n x k y xs) ∧
      s = ⟨mkF 32 [(0, .v (.int .u64 y)), (3, .v (.int .i64 n)), (4, .s 0), (10, .v (.int .i64 n)), (11, .v (.int .i64 k))], [.row 5 1 n (byts xs)], G'⟩) (fun k => n - k) ⟨0, _, ⟨x, _, ⟨by omega, h0⟩, rfl⟩, rfl, rfl, ?_⟩ ?_
  · (repeat' (first | exact trivial | exact .inl rfl | exact .inr rfl | refine And.intro ?_ ?_))
  rintro i s ⟨y, xs, ⟨h1, h2⟩, rfl⟩
  have hy := h2.2.2
  have hxl := h2.1
  have hw2 : IntKind.i64.wrap ((i : Int) + 1) = ((i + 1 : Nat) : Int) := by rw [i64_in (by omega) (by omega)]; simp
  repeat' ((fail_if_success with_reducible refine Stop.mk ?_); (conv => whnf); with_reducible first | refine br_t ?_ | refine br_f ?_ | refine br_nn ?_ | refine br_ns ?_ | refine br_not ?_ | refine br_d (fun h => ?_) (fun h => ?_) | refine br_e (fun h => ?_) (fun h => ?_) | refine br_n (fun h => ?_) (fun h => ?_) | refine drw (by kernel_rfl) ?_ | refine chk (by kernel_rfl) ?_ | refine stop ?_)
  all_goals refine Stop.mk ?_
  · refine ⟨⟨by omega, by omega⟩, ?_⟩
    repeat' ((fail_if_success with_reducible refine Stop.mk ?_); (conv => whnf); with_reducible first | refine br_t ?_ | refine br_f ?_ | refine br_nn ?_ | refine br_ns ?_ | refine br_not ?_ | refine br_d (fun h => ?_) (fun h => ?_) | refine br_e (fun h => ?_) (fun h => ?_) | refine br_n (fun h => ?_) (fun h => ?_) | refine drw (by kernel_rfl) ?_ | refine chk (by kernel_rfl) ?_ | refine stop ?_)
    all_goals refine Stop.mk ?_
    refine ⟨by rw [byts_length]; omega, ?_⟩
    rw [Nat.mul_one, Int.toNat_natCast, byts_set, Int.tmod_eq_emod_of_nonneg (by omega), IntKind.wrap_u8, or128 _ (by omega) (by omega)]
    repeat' ((fail_if_success with_reducible refine Stop.mk ?_); (conv => whnf); with_reducible first | refine br_t ?_ | refine br_f ?_ | refine br_nn ?_ | refine br_ns ?_ | refine br_not ?_ | refine br_d (fun h => ?_) (fun h => ?_) | refine br_e (fun h => ?_) (fun h => ?_) | refine br_n (fun h => ?_) (fun h => ?_) | refine drw (by kernel_rfl) ?_ | refine chk (by kernel_rfl) ?_ | refine stop ?_)
    all_goals refine Stop.mk ?_
    rw [hw2]
    refine ⟨i + 1, _, ⟨_, _, ⟨by omega, InP_step h2 (by omega)⟩, rfl⟩, by omega, rfl, rfl, ?_⟩
    rw [show ((y : Int) / 128) = ((y / 128 : Nat) : Int) by omega]
    (repeat' (first | exact trivial | exact .inl rfl | exact .inr rfl | refine And.intro ?_ ?_))
  · obtain rfl : i = n := by omega
    have hwn : IntKind.i64.wrap ((i : Int) - 1) = ((i - 1 : Nat) : Int) := by rw [i64_in (by omega) (by omega)]; omega
    rw [hwn]
    refine ⟨⟨by omega, by omega⟩, ?_⟩
    repeat' ((fail_if_success with_reducible refine Stop.mk ?_); (conv => whnf); with_reducible first | refine br_t ?_ | refine br_f ?_ | refine br_nn ?_ | refine br_ns ?_ | refine br_not ?_ | refine br_d (fun h => ?_) (fun h => ?_) | refine br_e (fun h => ?_) (fun h => ?_) | refine br_n (fun h => ?_) (fun h => ?_) | refine drw (by kernel_rfl) ?_ | refine chk (by kernel_rfl) ?_ | refine stop ?_)
    all_goals refine Stop.mk ?_
    refine ⟨_, by rw [Nat.mul_one, Int.toNat_natCast]; exact byts_get (by omega), ?_⟩
    repeat' ((fail_if_success with_reducible refine Stop.mk ?_); (conv => whnf); with_reducible first | refine br_t ?_ | refine br_f ?_ | refine br_nn ?_ | refine br_ns ?_ | refine br_not ?_ | refine br_d (fun h => ?_) (fun h => ?_) | refine br_e (fun h => ?_) (fun h => ?_) | refine br_n (fun h => ?_) (fun h => ?_) | refine drw (by kernel_rfl) ?_ | refine chk (by kernel_rfl) ?_ | refine stop ?_)
    all_goals refine Stop.mk ?_
    refine ⟨⟨by omega, by omega⟩, ?_⟩
    repeat' ((fail_if_success with_reducible refine Stop.mk ?_); (conv => whnf); with_reducible first | refine br_t ?_ | refine br_f ?_ | refine br_nn ?_ | refine br_ns ?_ | refine br_not ?_ | refine br_d (fun h => ?_) (fun h => ?_) | refine br_e (fun h => ?_) (fun h => ?_) | refine br_n (fun h => ?_) (fun h => ?_) | refine drw (by kernel_rfl) ?_ | refine chk (by kernel_rfl) ?_ | refine stop ?_)
    all_goals refine Stop.mk ?_
    refine ⟨by rw [byts_length]; omega, ?_⟩
    have hr := InP_range h2 (i := i - 1) (by omega)
    rw [Nat.mul_one, Int.toNat_natCast, byts_set, andNot128 _ hr.1 hr.2, hlast hx h2]
    repeat' ((fail_if_success with_reducible refine Stop.mk ?_); (conv => whnf); with_reducible first | refine br_t ?_ | refine br_f ?_ | refine br_nn ?_ | refine br_ns ?_ | refine br_not ?_ | refine br_d (fun h => ?_) (fun h => ?_) | refine br_e (fun h => ?_) (fun h => ?_) | refine br_n (fun h => ?_) (fun h => ?_) | refine drw (by kernel_rfl) ?_ | refine chk (by kernel_rfl) ?_ | refine stop ?_)
    all_goals refine Stop.mk ?_
    refine fin_done 0 rfl (byts_one _) fun A c G2 hg hsl => fin_id hE 0 rfl rfl rfl rfl ⟨⟨A, c, ?_, ?_⟩, rfl⟩
    · show SV.v _ = _; unfold putB; rw [hn]
    · unfold putB SlB; rw [hn]; exact hsl
end Go.Proofs.Ytgdfhpknhcjipaa.Cu
