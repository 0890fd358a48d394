/- The variable-length integers: contracts. -/
import Derived.Test.YtgdfhpknhcjipaaSX13
import Derived.Test.YtgdfhpknhcjipaaVT
import Derived.Test.YtgdfhpknhcjipaaProg
namespace Go.Proofs.Ytgdfhpknhcjipaa.Cu
open Go Go.SX Go.Proofs.Ytgdfhpknhcjipaa.VT
set_option maxRecDepth 100000
set_option linter.unusedVariables false

theorem follows : Try.prog.follows .mixedOrders = true := by kernel_rfl
theorem i64_in {n : Int} (h1 : -9223372036854775808 ≤ n) (h2 : n ≤ 9223372036854775807) : IntKind.i64.wrap n = n := by rw [IntKind.wrap_i64]; omega
theorem u64_in {n : Int} (h1 : 0 ≤ n) (h2 : n < 18446744073709551616) : IntKind.u64.wrap n = n := by rw [IntKind.wrap_u64]; omega

theorem svi {k : IntKind} {a b : Int} (h : a = b) : SV.v (.int k a) = .v (.int k b) := by rw [h]
def byts (l : List Int) : List Value := l.map (.int .u8)
def isB (l : List Int) : Prop := ∀ x ∈ l, 0 ≤ x ∧ x ≤ 255
theorem byts_length (l : List Int) : (byts l).length = l.length := by simp [byts]
theorem byts_one (l : List Int) : ∀ v ∈ byts l, v.oneCell' = true := by simp [byts, Value.oneCell']
/-- A slice of bytes that nobody changes. -/
abbrev SlB (G : Gh) (A : Option Addr) (c : Nat) (l : List Int) : Prop := Sl G A l.length c 1 (byts l)
theorem getD_isB {l : List Int} (hb : isB l) {i : Nat} (h : i < l.length) : 0 ≤ l.getD i 0 ∧ l.getD i 0 ≤ 255 := by
  rw [List.getD_eq_getElem?_getD, List.getElem?_eq_getElem h]; exact hb _ (List.getElem_mem h)
theorem el1 {G : Gh} {ad : Addr} {l : List Int} {j : Nat} (h : Gat G ad (((byts l).drop (j * 1)).take 1)) (hj : j < l.length) : Gcell G ad = some (.int .u8 (l.getD j 0)) := by
  have := h 0 (.int .u8 (l.getD j 0)) (by
    rw [List.getElem?_take, if_pos (by omega), List.getElem?_drop]
    simp [byts, List.getElem?_eq_getElem hj])
  exact this

theorem pow7 (i : Nat) (h : i ≤ 9) : 2 ^ (7 * i) * 2 ≤ 18446744073709551616 ∧ 2 ^ (7 * i) ≤ 9223372036854775808 := by
  have := Nat.pow_le_pow_right (n := 2) (by decide) (show 7 * i ≤ 63 by omega)
  omega
theorem pow7s (i : Nat) : 2 ^ (7 * (i + 1)) = 2 ^ (7 * i) * 128 := by rw [show 7 * (i + 1) = 7 * i + 7 by omega, Nat.pow_add]
theorem pow7t (i : Nat) (h : i ≤ 8) : 2 ^ (7 * i) * 256 ≤ 18446744073709551616 := by
  have := Nat.pow_le_pow_right (n := 2) (by decide) (show 7 * i ≤ 56 by omega)
  omega
/-- v, then what is decoded from digit i on. -/
def from_ (v i : Nat) (x : Int × Int × Int) : Int × Int × Int := if x.2.2 = 0 then ((v : Int) + x.1 * ((2 ^ (7 * i) : Nat) : Int), x.2.1, 0) else (0, 0, x.2.2)
theorem from_err (v i : Nat) (e : Int) (h : e ≠ 0) : from_ v i (0, 0, e) = (0, 0, e) := by unfold from_; rw [if_neg h]
theorem from_cons (v i : Nat) (d : Int) (x : Int × Int × Int) (hd : (v : Int) + d * ((2 ^ (7 * i) : Nat) : Int) = ((v + d.toNat * 2 ^ (7 * i) : Nat) : Int)) :
    from_ (v + d.toNat * 2 ^ (7 * i)) (i + 1) x = from_ v i (if x.2.2 = 0 then (d + 128 * x.1, x.2.1, 0) else (0, 0, x.2.2)) := by
  unfold from_
  by_cases h : x.2.2 = 0
  · simp only [if_pos h, if_true]
    refine Prod.ext ?_ rfl
    simp only
    rw [← hd, pow7s, Int.natCast_mul]
    generalize ((2 ^ (7 * i) : Nat) : Int) = p
    rw [Int.add_mul, Int.mul_assoc, ← Int.add_assoc, ← Int.mul_assoc x.1 p, Int.mul_comm (x.1 * p) _]; rfl
  · simp only [if_neg h]
theorem drop_at {xs : List Int} {i : Nat} (h : i < xs.length) : xs.drop i = xs.getD i 0 :: xs.drop (i + 1) := by
  rw [List.drop_eq_getElem_cons h]
  simp [List.getD_eq_getElem?_getD, List.getElem?_eq_getElem h]

theorem vdec_err {l : List Int} (hb : isB l) : (vdec 0 l).2.2 ≠ 0 → (vdec 0 l).1 = 0 ∧ (vdec 0 l).2.1 = 0 := by
  rcases vdec_spec l 0 (by omega) hb with ⟨e, _, h⟩ | ⟨n, m, h, _⟩ <;> rw [h] <;> simp
theorem from_zero (x : Int × Int × Int) (h : x.2.2 ≠ 0 → x.1 = 0 ∧ x.2.1 = 0) : from_ 0 0 x = x := by
  unfold from_
  obtain ⟨a, b, c⟩ := x
  simp only at h ⊢
  by_cases hc : c = 0
  · subst hc; simp
  · rw [if_neg hc, (h hc).1, (h hc).2]
theorem vs_bad {v i : Nat} {c : Int} {r : List Int} (h : ((i : Int) = 9 ∧ c > 1) ∨ ((i : Int) > 0 ∧ c = 0)) : from_ v i (vdec i (c :: r)) = (0, 0, 3) := by
  unfold vdec; rw [if_pos (by omega), from_err v i 3 (by decide)]
theorem vs_last {v i : Nat} {c : Int} {r : List Int} (h : ¬ (((i : Int) = 9 ∧ c > 1) ∨ ((i : Int) > 0 ∧ c = 0))) (h0 : 0 ≤ c) (hc : c < 128) : from_ v i (vdec i (c :: r)) = (((v + (c % 128).toNat * 2 ^ (7 * i) : Nat) : Int), (i : Int) + 1, 0) := by
  unfold vdec; rw [if_neg (by omega), if_pos hc]
  unfold from_
  simp only [if_true]
  push_cast
  rw [Int.toNat_of_nonneg (by omega), Int.emod_eq_of_lt h0 hc]
theorem vs_more {v i : Nat} {c : Int} {r : List Int} (h : ¬ (((i : Int) = 9 ∧ c > 1) ∨ ((i : Int) > 0 ∧ c = 0))) (h1 : c ≤ 255) (hc : ¬ c < 128) : from_ v i (vdec i (c :: r)) = from_ (v + (c % 128).toNat * 2 ^ (7 * i)) (i + 1) (vdec (i + 1) r) := by
  rw [from_cons v i (c % 128) _ (by push_cast; rw [Int.toNat_of_nonneg (by omega)])]
  conv => lhs; unfold vdec
  rw [if_neg (by omega), if_neg hc, show c % 128 = c - 128 from by omega]
theorem or_step {v i : Nat} {c : Int} (h1 : i ≤ 9) (hv : v < 2 ^ (7 * i)) (h : ¬ (((i : Int) = 9 ∧ c > 1) ∨ ((i : Int) > 0 ∧ c = 0))) (h0 : 0 ≤ c) (hc : c ≤ 255) :
    bits .or .u64 (v : Int) (IntKind.u64.wrap (IntKind.u64.wrap (bits .andNot .u8 c 128) * 2 ^ (min (((7 * i : Nat) : Int)).toNat IntKind.u64.bits))) = ((v + (c % 128).toNat * 2 ^ (7 * i) : Nat) : Int) ∧
      v + (c % 128).toNat * 2 ^ (7 * i) < 2 ^ (7 * (i + 1)) ∧ v + (c % 128).toNat * 2 ^ (7 * i) < 18446744073709551616 := by
  have hp := pow7 i h1
  have hle : (c % 128).toNat * 2 ^ (7 * i) ≤ 127 * 2 ^ (7 * i) := Nat.mul_le_mul_right _ (by omega)
  have hb : v + (c % 128).toNat * 2 ^ (7 * i) < 18446744073709551616 := by
    by_cases h9 : i = 9
    · have : (c % 128).toNat ≤ 1 := by omega
      have := Nat.mul_le_mul_right (2 ^ (7 * i)) this
      omega
    · have := pow7t i (by omega); omega
  refine ⟨?_, by rw [pow7s]; omega, hb⟩
  rw [andNot128 c h0 hc, show IntKind.u64.wrap (c % 128) = c % 128 from u64_in (by omega) (by omega)]
  rw [show min ((((7 * i : Nat) : Int)).toNat) IntKind.u64.bits = 7 * i from by simp [IntKind.bits]; omega]
  have e : (c % 128) * 2 ^ (7 * i) = (((c % 128).toNat * 2 ^ (7 * i) : Nat) : Int) := by
    push_cast
    rw [Int.toNat_of_nonneg (by omega)]
  rw [e, u64_in (by omega) (by omega), or_join v _ (7 * i) hv hb]

def InV (bs : List Int) (i v : Nat) : Prop := v < 2 ^ (7 * i) ∧ from_ v i (vdec i (bs.drop i)) = vdec 0 bs
def getR (bs : List Int) : SV := .tup [.v (.int .u64 (vdec 0 bs).1), .v (.int .i64 (vdec 0 bs).2.1), .v (.int .i64 (vdec 0 bs).2.2)]
theorem getR_of {bs : List Int} {a b c : Int} (h : (a, b, c) = vdec 0 bs) : SV.tup [.v (.int .u64 a), .v (.int .i64 b), .v (.int .i64 c)] = getR bs := by unfold getR; rw [← h]

set_option maxHeartbeats 8000000 in
theorem get_fn (G : Gh) (A : Option Addr) (c : Nat) (bs : List Int) (hb : isB bs) (hs : SlB G A c bs) :
    Ct Try.prog 57 [.v (.slice A bs.length c)] [] G fun sv H' G' => sv = getR bs ∧ H' = [] ∧ G' = G := by
  refine fn_of follows [] Try.func57 rfl rfl fun E hE => ?_
  repeat' ((fail_if_success with_reducible refine Stop.mk ?_); (conv => whnf); with_reducible first | refine br_t ?_ | refine br_f ?_ | refine br_nn ?_ | refine br_ns ?_ | refine br_not ?_ | refine br_d (fun h => ?_) (fun h => ?_) | refine br_e (fun h => ?_) (fun h => ?_) | refine br_n (fun h => ?_) (fun h => ?_) | refine drw (by kernel_rfl) ?_ | refine chk (by kernel_rfl) ?_ | refine stop ?_)
  all_goals refine Stop.mk ?_
  refine loop_rule follows [] (α := Nat × Nat) (fun x s => ∃ i v, x = (i, v) ∧ (i ≤ 9 ∧ InV bs i v) ∧
      s = ⟨mkF 47 [(0, .v (.slice A bs.length c)), (5, .v (.int .u64 v)), (8, .v (.int .i64 i))], [], G⟩) (fun x => 10 - x.1) ⟨(0, 0), _, ⟨0, 0, rfl, ⟨by omega, ?_⟩, rfl⟩, rfl, rfl, ?_⟩ ?_
  · exact ⟨by simp, by rw [List.drop_zero, from_zero _ (vdec_err hb)]⟩
  · (repeat' (first | exact trivial | exact .inl rfl | exact .inr rfl | refine And.intro ?_ ?_))
  rintro _ s ⟨i, v, rfl, ⟨h1, h2⟩, rfl⟩
  repeat' ((fail_if_success with_reducible refine Stop.mk ?_); (conv => whnf); with_reducible first | refine br_t ?_ | refine br_f ?_ | refine br_nn ?_ | refine br_ns ?_ | refine br_not ?_ | refine br_d (fun h => ?_) (fun h => ?_) | refine br_e (fun h => ?_) (fun h => ?_) | refine br_n (fun h => ?_) (fun h => ?_) | refine drw (by kernel_rfl) ?_ | refine chk (by kernel_rfl) ?_ | refine stop ?_)
  all_goals refine Stop.mk ?_
  · refine fin_id hE 0 rfl rfl rfl rfl ⟨?_, rfl, rfl⟩
    have := h2.2
    rw [List.drop_eq_nil_of_le (by omega)] at this
    simp only [vdec, from_err v i 1 (by decide)] at this
    exact getR_of this
  · refine ⟨⟨by omega, by omega⟩, _, hs, fun ad had => ?_⟩
    repeat' ((fail_if_success with_reducible refine Stop.mk ?_); (conv => whnf); with_reducible first | refine br_t ?_ | refine br_f ?_ | refine br_nn ?_ | refine br_ns ?_ | refine br_not ?_ | refine br_d (fun h => ?_) (fun h => ?_) | refine br_e (fun h => ?_) (fun h => ?_) | refine br_n (fun h => ?_) (fun h => ?_) | refine drw (by kernel_rfl) ?_ | refine chk (by kernel_rfl) ?_ | refine stop ?_)
    all_goals refine Stop.mk ?_
    refine ⟨_, el1 had (by omega), ?_⟩
    rw [Int.toNat_natCast]
    have hc := getD_isB hb (i := i) (by omega)
    have hstep := h2.2
    rw [drop_at (xs := bs) (i := i) (by omega)] at hstep
    generalize hcc : bs.getD i 0 = ch at *
    have hw : IntKind.i64.wrap (7 * (i : Int)) = ((7 * i : Nat) : Int) := by rw [i64_in (by omega) (by omega)]; simp
    have hw2 : IntKind.i64.wrap ((i : Int) + 1) = ((i + 1 : Nat) : Int) := by rw [i64_in (by omega) (by omega)]; simp
    repeat' ((fail_if_success with_reducible refine Stop.mk ?_); (conv => whnf); with_reducible first | refine br_t ?_ | refine br_f ?_ | refine br_nn ?_ | refine br_ns ?_ | refine br_not ?_ | refine br_d (fun h => ?_) (fun h => ?_) | refine br_e (fun h => ?_) (fun h => ?_) | refine br_n (fun h => ?_) (fun h => ?_) | refine drw (by kernel_rfl) ?_ | refine chk (by kernel_rfl) ?_ | refine stop ?_)
    all_goals refine Stop.mk ?_
    all_goals first
      | exact fin_id hE 0 rfl rfl rfl rfl ⟨getR_of ((vs_bad (v := v) (i := i) (c := ch) (r := bs.drop (i + 1)) (by omega)).symm.trans hstep), rfl, rfl⟩
      | skip
    all_goals
      have hor := or_step h1 h2.1 (c := ch) (by omega) hc.1 hc.2
      rw [hw]
      refine ⟨by omega, ?_⟩
      repeat' ((fail_if_success with_reducible refine Stop.mk ?_); (conv => whnf); with_reducible first | refine br_t ?_ | refine br_f ?_ | refine br_nn ?_ | refine br_ns ?_ | refine br_not ?_ | refine br_d (fun h => ?_) (fun h => ?_) | refine br_e (fun h => ?_) (fun h => ?_) | refine br_n (fun h => ?_) (fun h => ?_) | refine drw (by kernel_rfl) ?_ | refine chk (by kernel_rfl) ?_ | refine stop ?_)
      all_goals refine Stop.mk ?_
      · rw [hor.1, hw2]
        refine fin_id hE 0 rfl rfl rfl rfl ⟨getR_of ?_, rfl, rfl⟩
        rw [← hstep, vs_last (v := v) (i := i) (c := ch) (by omega) hc.1 (by omega)]; simp
      · refine ⟨(i + 1, v + (ch % 128).toNat * 2 ^ (7 * i)), _, ⟨i + 1, _, rfl, ⟨?_, ⟨hor.2.1, ?_⟩⟩, rfl⟩, ?_, rfl, rfl, ?_⟩
        · omega
        · rw [← hstep, vs_more (v := v) (i := i) (c := ch) (by omega) hc.2 (by omega)]
        · show 10 - (i + 1) < 10 - i; omega
        · rw [hor.1, hw2]
          (repeat' (first | exact trivial | exact .inl rfl | exact .inr rfl | refine And.intro ?_ ?_))
  all_goals (exfalso; omega)
end Go.Proofs.Ytgdfhpknhcjipaa.Cu
