/- The reference's cursor. -/
import Derived.Test.YtihnbkoeaaepiaaCuA
import Derived.Test.YtihnbkoeaaepiaaVc
namespace Go.Proofs.Ytihnbkoeaaepiaa.Cu
open Go Go.SX Go.Proofs.Ytihnbkoeaaepiaa.VT
set_option maxRecDepth 100000
set_option linter.unusedVariables false
set_option linter.unusedSimpArgs false

/-- The reference's cursor as a value. -/
def curS (A : Option Addr) (n c : Nat) (a e : Int) : SV := .agg [.v (.slice A n c), .v (.int .i64 a), .v (.int .i64 e)]
theorem step_fn (G : Gh) (A : Option Addr) (l c : Nat) (a e n x : Int) :
    Ct Try.prog 47 [curS A l c a e, .v (.int .i64 n), .v (.int .i64 x)] [] G fun sv H' G' =>
      sv = (if x ≠ 0 then curS A l c a x else curS A l c (IntKind.i64.wrap (a + n)) e) ∧ H' = [] ∧ G' = G := by
  refine fn_of follows [] Try.func47 rfl rfl fun E hE => ?_
  repeat' ((fail_if_success with_reducible refine Stop.mk ?_); (conv => whnf); with_reducible first | refine br_t ?_ | refine br_f ?_ | refine br_nn ?_ | refine br_ns ?_ | refine br_not ?_ | refine br_d (fun h => ?_) (fun h => ?_) | refine br_e (fun h => ?_) (fun h => ?_) | refine br_n (fun h => ?_) (fun h => ?_) | refine drw (by kernel_rfl) ?_ | refine chk (by kernel_rfl) ?_ | refine stop ?_)
  all_goals refine Stop.mk ?_
  · exact fin_id hE 0 rfl rfl rfl rfl ⟨by rw [if_neg (by omega)]; try rfl, rfl, rfl⟩
  · exact fin_id hE 0 rfl rfl rfl rfl ⟨by rw [if_pos (by assumption)]; try rfl, rfl, rfl⟩
theorem three {k : Int} (hk : 0 ≤ k ∧ k ≤ 6) (h2 : ¬ k = 2) (h0 : k ≠ 0) (h1 : k ≠ 1) (h4 : k ≠ 4) (h5 : k ≠ 5) (h6 : k ≠ 6) : k = 3 := by omega
set_option maxHeartbeats 8000000 in
theorem do_fn (G : Gh) (A : Option Addr) (bs : List Int) (c a : Nat) (e : Int) (r : Rd) (hb : isB bs) (hs : SlB G A c bs) (ha : a ≤ bs.length) (hr : r.ok) (hk : 0 ≤ r.k ∧ r.k ≤ 6) :
    Ct Try.prog 23 [curS A bs.length c a e, r.sv] [] G fun sv H' G' =>
      (∃ A' c', sv = .tup [curS A bs.length c (rdS bs a e r).at_ (rdS bs a e r).e, .v (.int .u64 (rdS bs a e r).v), .v (.slice A' (rdS bs a e r).x.length c')] ∧ SlB G' A' c' (rdS bs a e r).x) ∧ H' = [] ∧ G' = G := by
  obtain ⟨h1, h2, h3, h4⟩ := hr
  have htop := hs.top
  have hcap := hs.cap
  refine fn_of follows [(8, ([(0, []), (2, []), (3, []), (4, []), (5, []), (1, [0]), (6, [0]), (7, []), (8, [])], [])), (14, ([(0, []), (1, []), (2, []), (4, []), (5, []), (6, []), (7, []), (3, [0, 2]), (8, [0, 2]), (9, []), (10, [])], []))] Try.func23 rfl rfl fun E hE => ?_
  repeat' ((fail_if_success with_reducible refine Stop.mk ?_); (conv => whnf); with_reducible first | refine br_t ?_ | refine br_f ?_ | refine br_nn ?_ | refine br_ns ?_ | refine br_not ?_ | refine br_d (fun h => ?_) (fun h => ?_) | refine br_e (fun h => ?_) (fun h => ?_) | refine br_n (fun h => ?_) (fun h => ?_) | refine drw (by kernel_rfl) ?_ | refine chk (by kernel_rfl) ?_ | refine stop ?_)
  all_goals refine Stop.mk ?_
  rotate_left
  · have hrd := rdS_err bs a e r (by assumption)
    refine fin_id hE 0 rfl rfl rfl rfl ⟨⟨none, 0, ?_, ?_⟩, rfl, rfl⟩ <;> rw [hrd]
    · rfl
    · exact slB_nil _
  obtain rfl : e = 0 := by assumption
  refine ⟨⟨by omega, by omega⟩, fun A' hA' => ?_⟩
  rw [Int.toNat_natCast] at hA' ⊢
  have hs' := slB_drop hs a ha hA'
  have hl : (bs.drop a).length = bs.length - a := by simp
  rw [show bs.length - a = (bs.drop a).length by simp]
  repeat' ((fail_if_success with_reducible refine Stop.mk ?_); (conv => whnf); with_reducible first | refine br_t ?_ | refine br_f ?_ | refine br_nn ?_ | refine br_ns ?_ | refine br_not ?_ | refine br_d (fun h => ?_) (fun h => ?_) | refine br_e (fun h => ?_) (fun h => ?_) | refine br_n (fun h => ?_) (fun h => ?_) | refine drw (by kernel_rfl) ?_ | refine chk (by kernel_rfl) ?_ | refine stop ?_)
  all_goals refine Stop.mk ?_
  · refine call_fn [] (step_fn _ A bs.length c a 0 (0) (1)) rfl trivial (by decide) ?_
    rintro sv H' G' ⟨rfl, rfl, rfl⟩ -
    refine ⟨by simp, ?_⟩
    rw [if_pos (by decide)]
    repeat' ((fail_if_success with_reducible refine Stop.mk ?_); (conv => whnf); with_reducible first | refine br_t ?_ | refine br_f ?_ | refine br_nn ?_ | refine br_ns ?_ | refine br_not ?_ | refine br_d (fun h => ?_) (fun h => ?_) | refine br_e (fun h => ?_) (fun h => ?_) | refine br_n (fun h => ?_) (fun h => ?_) | refine drw (by kernel_rfl) ?_ | refine chk (by kernel_rfl) ?_ | refine stop ?_)
    all_goals refine Stop.mk ?_
    have hrd : rdS bs a 0 r = ⟨0, [], a, 1⟩ := by unfold rdS cByte; rw [if_pos (by assumption), if_neg (by decide), if_pos (by omega)]
    refine fin_id hE 0 rfl rfl rfl rfl ⟨⟨none, 0, ?_, ?_⟩, rfl, rfl⟩ <;> rw [hrd]
    · rfl
    · exact slB_nil _
  · refine ⟨⟨by omega, by omega⟩, _, hs', fun ad had => ?_⟩
    repeat' ((fail_if_success with_reducible refine Stop.mk ?_); (conv => whnf); with_reducible first | refine br_t ?_ | refine br_f ?_ | refine br_nn ?_ | refine br_ns ?_ | refine br_not ?_ | refine br_d (fun h => ?_) (fun h => ?_) | refine br_e (fun h => ?_) (fun h => ?_) | refine br_n (fun h => ?_) (fun h => ?_) | refine drw (by kernel_rfl) ?_ | refine chk (by kernel_rfl) ?_ | refine stop ?_)
    all_goals refine Stop.mk ?_
    refine ⟨_, el1 had (by omega), ?_⟩
    repeat' ((fail_if_success with_reducible refine Stop.mk ?_); (conv => whnf); with_reducible first | refine br_t ?_ | refine br_f ?_ | refine br_nn ?_ | refine br_ns ?_ | refine br_not ?_ | refine br_d (fun h => ?_) (fun h => ?_) | refine br_e (fun h => ?_) (fun h => ?_) | refine br_n (fun h => ?_) (fun h => ?_) | refine drw (by kernel_rfl) ?_ | refine chk (by kernel_rfl) ?_ | refine stop ?_)
    all_goals refine Stop.mk ?_
    refine call_fn [] (step_fn _ A bs.length c a 0 (1) (0)) rfl trivial (by decide) ?_
    rintro sv H' G' ⟨rfl, rfl, rfl⟩ -
    refine ⟨by simp, ?_⟩
    rw [if_neg (by decide)]
    repeat' ((fail_if_success with_reducible refine Stop.mk ?_); (conv => whnf); with_reducible first | refine br_t ?_ | refine br_f ?_ | refine br_nn ?_ | refine br_ns ?_ | refine br_not ?_ | refine br_d (fun h => ?_) (fun h => ?_) | refine br_e (fun h => ?_) (fun h => ?_) | refine br_n (fun h => ?_) (fun h => ?_) | refine drw (by kernel_rfl) ?_ | refine chk (by kernel_rfl) ?_ | refine stop ?_)
    all_goals refine Stop.mk ?_
    have hrg := getD_isB (isB_drop hb a) (i := 0) (by omega)
    have hge : (bs.drop a).getD 0 0 = bs.getD a 0 := by simp [List.getD_eq_getElem?_getD]
    have hrd : rdS bs a 0 r = ⟨bs.getD a 0, [], a + 1, 0⟩ := by unfold rdS cByte; rw [if_pos (by assumption), if_neg (by decide), if_neg (by omega)]
    have e1 : IntKind.i64.wrap ((a : Int) + 1) = ((a + 1 : Nat) : Int) := by rw [i64_in (by omega) (by omega)]; simp
    refine fin_id hE 0 rfl rfl rfl rfl ⟨⟨none, 0, ?_, ?_⟩, rfl, rfl⟩ <;> rw [hrd]
    · show SV.tup [curS A bs.length c _ 0, SV.v (.int .u64 (IntKind.u64.wrap _)), _] = _
      rw [e1, u64_in (by simp only [Int.toNat_zero]; omega) (by simp only [Int.toNat_zero]; omega)]
      simp only [Int.toNat_zero]
      rw [hge]
      rfl
    · exact slB_nil _
  · refine call_fn [] (step_fn _ A bs.length c a 0 (0) (32)) rfl trivial (by decide) ?_
    rintro sv H' G' ⟨rfl, rfl, rfl⟩ -
    refine ⟨by simp, ?_⟩
    rw [if_pos (by decide)]
    repeat' ((fail_if_success with_reducible refine Stop.mk ?_); (conv => whnf); with_reducible first | refine br_t ?_ | refine br_f ?_ | refine br_nn ?_ | refine br_ns ?_ | refine br_not ?_ | refine br_d (fun h => ?_) (fun h => ?_) | refine br_e (fun h => ?_) (fun h => ?_) | refine br_n (fun h => ?_) (fun h => ?_) | refine drw (by kernel_rfl) ?_ | refine chk (by kernel_rfl) ?_ | refine stop ?_)
    all_goals refine Stop.mk ?_
    have hrd : rdS bs a 0 r = ⟨0, [], a, 32⟩ := by unfold rdS cBytes; rw [if_neg (by omega), if_pos (by assumption), if_neg (by decide), if_pos (by omega)]
    refine fin_id hE 0 rfl rfl rfl rfl ⟨⟨none, 0, ?_, ?_⟩, rfl, rfl⟩ <;> rw [hrd]
    · rfl
    · exact slB_nil _
  · refine call_fn [] (step_fn _ A bs.length c a 0 (0) (1)) rfl trivial (by decide) ?_
    rintro sv H' G' ⟨rfl, rfl, rfl⟩ -
    refine ⟨by simp, ?_⟩
    rw [if_pos (by decide)]
    repeat' ((fail_if_success with_reducible refine Stop.mk ?_); (conv => whnf); with_reducible first | refine br_t ?_ | refine br_f ?_ | refine br_nn ?_ | refine br_ns ?_ | refine br_not ?_ | refine br_d (fun h => ?_) (fun h => ?_) | refine br_e (fun h => ?_) (fun h => ?_) | refine br_n (fun h => ?_) (fun h => ?_) | refine drw (by kernel_rfl) ?_ | refine chk (by kernel_rfl) ?_ | refine stop ?_)
    all_goals refine Stop.mk ?_
    have hrd : rdS bs a 0 r = ⟨0, [], a, 1⟩ := by unfold rdS cBytes; rw [if_neg (by omega), if_pos (by assumption), if_neg (by decide), if_neg (by omega), if_pos (by omega)]
    refine fin_id hE 0 rfl rfl rfl rfl ⟨⟨none, 0, ?_, ?_⟩, rfl, rfl⟩ <;> rw [hrd]
    · rfl
    · exact slB_nil _
  · refine ⟨⟨by omega, by omega⟩, fun A2 hA2 => ?_⟩
    obtain rfl : A2 = A' := by rw [hA2]; split; · rfl
                               cases A' <;> simp [Addr.add]
    repeat' ((fail_if_success with_reducible refine Stop.mk ?_); (conv => whnf); with_reducible first | refine br_t ?_ | refine br_f ?_ | refine br_nn ?_ | refine br_ns ?_ | refine br_not ?_ | refine br_d (fun h => ?_) (fun h => ?_) | refine br_e (fun h => ?_) (fun h => ?_) | refine br_n (fun h => ?_) (fun h => ?_) | refine drw (by kernel_rfl) ?_ | refine chk (by kernel_rfl) ?_ | refine stop ?_)
    all_goals refine Stop.mk ?_
    refine call_fn [] (step_fn _ A bs.length c a 0 (r.a) (0)) rfl trivial (by decide) ?_
    rintro sv H' G' ⟨rfl, rfl, rfl⟩ -
    refine ⟨by simp, ?_⟩
    rw [if_neg (by decide)]
    repeat' ((fail_if_success with_reducible refine Stop.mk ?_); (conv => whnf); with_reducible first | refine br_t ?_ | refine br_f ?_ | refine br_nn ?_ | refine br_ns ?_ | refine br_not ?_ | refine br_d (fun h => ?_) (fun h => ?_) | refine br_e (fun h => ?_) (fun h => ?_) | refine br_n (fun h => ?_) (fun h => ?_) | refine drw (by kernel_rfl) ?_ | refine chk (by kernel_rfl) ?_ | refine stop ?_)
    all_goals refine Stop.mk ?_
    have hrd : rdS bs a 0 r = ⟨0, (bs.drop a).take r.a.toNat, a + r.a.toNat, 0⟩ := by unfold rdS cBytes; rw [if_neg (by omega), if_pos (by assumption), if_neg (by decide), if_neg (by omega), if_neg (by omega)]
    have e1 : IntKind.i64.wrap ((a : Int) + r.a) = ((a + r.a.toNat : Nat) : Int) := by rw [i64_in (by omega) (by omega)]; omega
    have hlt : ((bs.drop a).take r.a.toNat).length = r.a.toNat := by rw [List.length_take]; omega
    refine fin_id hE 0 rfl rfl rfl rfl ⟨⟨A2, c - a, ?_, ?_⟩, rfl, rfl⟩ <;> rw [hrd]
    · show SV.tup [curS A bs.length c _ 0, _, _] = _
      rw [e1, hlt]
      rfl
    · unfold SlB
      rw [hlt]
      exact slB_take hs' r.a.toNat (by omega)
  · have hrd : rdS bs a 0 r = ⟨0, [], a, 2⟩ := by unfold rdS leftN; rw [if_neg (by omega), if_neg (by omega), if_neg (by omega), if_neg (by omega), if_neg (by omega), if_pos (by assumption), if_pos rfl, if_pos (by omega)]
    refine fin_id hE 0 rfl rfl rfl rfl ⟨⟨none, 0, ?_, ?_⟩, rfl, rfl⟩ <;> rw [hrd]
    · rfl
    · exact slB_nil _
  · have hrd : rdS bs a 0 r = ⟨0, [], a, 0⟩ := by unfold rdS leftN; rw [if_neg (by omega), if_neg (by omega), if_neg (by omega), if_neg (by omega), if_neg (by omega), if_pos (by assumption), if_pos rfl, if_neg (by omega)]
    refine fin_id hE 0 rfl rfl rfl rfl ⟨⟨none, 0, ?_, ?_⟩, rfl, rfl⟩ <;> rw [hrd]
    · rfl
    · exact slB_nil _
  · have hrd : rdS bs a 0 r = ⟨0, [], a, r.a⟩ := by unfold rdS failE; rw [if_neg (by omega), if_neg (by omega), if_neg (by omega), if_neg (by omega), if_neg (by omega), if_neg (by omega), if_pos (by assumption), if_pos rfl]
    refine fin_id hE 0 rfl rfl rfl rfl ⟨⟨none, 0, ?_, ?_⟩, rfl, rfl⟩ <;> rw [hrd]
    · rfl
    · exact slB_nil _
  · refine call_fn [] (step_fn _ A bs.length c a 0 (0) (32)) rfl trivial (by decide) ?_
    rintro sv H' G' ⟨rfl, rfl, rfl⟩ -
    refine ⟨by simp, ?_⟩
    rw [if_pos (by decide)]
    repeat' ((fail_if_success with_reducible refine Stop.mk ?_); (conv => whnf); with_reducible first | refine br_t ?_ | refine br_f ?_ | refine br_nn ?_ | refine br_ns ?_ | refine br_not ?_ | refine br_d (fun h => ?_) (fun h => ?_) | refine br_e (fun h => ?_) (fun h => ?_) | refine br_n (fun h => ?_) (fun h => ?_) | refine drw (by kernel_rfl) ?_ | refine chk (by kernel_rfl) ?_ | refine stop ?_)
    all_goals refine Stop.mk ?_
    have hrd : rdS bs a 0 r = ⟨0, [], a, 32⟩ := by unfold rdS cCount resC; rw [if_neg (by omega), if_neg (by omega), if_neg (by omega), if_neg (by omega), if_pos (by assumption), if_neg (by decide), if_pos (by omega)]; rfl
    refine fin_id hE 0 rfl rfl rfl rfl ⟨⟨none, 0, ?_, ?_⟩, rfl, rfl⟩ <;> rw [hrd]
    · rfl
    · exact slB_nil _
  · refine call_fn [] (step_fn _ A bs.length c a 0 (0) (32)) rfl trivial (by decide) ?_
    rintro sv H' G' ⟨rfl, rfl, rfl⟩ -
    refine ⟨by simp, ?_⟩
    rw [if_pos (by decide)]
    repeat' ((fail_if_success with_reducible refine Stop.mk ?_); (conv => whnf); with_reducible first | refine br_t ?_ | refine br_f ?_ | refine br_nn ?_ | refine br_ns ?_ | refine br_not ?_ | refine br_d (fun h => ?_) (fun h => ?_) | refine br_e (fun h => ?_) (fun h => ?_) | refine br_n (fun h => ?_) (fun h => ?_) | refine drw (by kernel_rfl) ?_ | refine chk (by kernel_rfl) ?_ | refine stop ?_)
    all_goals refine Stop.mk ?_
    have hrd : rdS bs a 0 r = ⟨0, [], a, 32⟩ := by unfold rdS cCount resC; rw [if_neg (by omega), if_neg (by omega), if_neg (by omega), if_neg (by omega), if_pos (by assumption), if_neg (by decide), if_pos (by omega)]; rfl
    refine fin_id hE 0 rfl rfl rfl rfl ⟨⟨none, 0, ?_, ?_⟩, rfl, rfl⟩ <;> rw [hrd]
    · rfl
    · exact slB_nil _
  · have hbd := isB_drop hb a
    refine call_fn [] (refGet_fn _ A' (c - a) (bs.drop a) hbd hs') rfl trivial (by decide) ?_
    rintro sv H' G' ⟨rfl, rfl, rfl⟩ -
    refine ⟨by simp, ?_⟩
    have hform := vdec_form hbd
    have hrd : rdS bs a 0 r = ⟨(resC r.a r.b (bs.drop a)).1, [], a + (resC r.a r.b (bs.drop a)).2.1.toNat, (resC r.a r.b (bs.drop a)).2.2⟩ := by
      unfold rdS cCount; rw [if_neg (by omega), if_neg (by omega), if_neg (by omega), if_neg (by omega), if_pos (by assumption), if_neg (by decide)]
    have hres : ∀ y, whyC r.a r.b (bs.drop a).length (vdec 0 (bs.drop a)) = y → resC r.a r.b (bs.drop a) = if y = 0 then ((vdec 0 (bs.drop a)).1, (vdec 0 (bs.drop a)).2.1, 0) else (0, 0, y) := by
      intro y hy; subst hy; unfold resC; rw [if_neg (by omega)]
    unfold getR
    generalize vdec 0 (bs.drop a) = d at *
    have hd0 : 0 ≤ d.1 ∧ d.1 < 18446744073709551616 ∧ 0 ≤ d.2.1 ∧ d.2.1 ≤ (bs.drop a).length := by
      rcases hform with ⟨x, hx, h⟩ | ⟨n, m, h, h3, h4, h5, _⟩ <;> rw [h] <;> simp only [] <;> omega
    repeat' ((fail_if_success with_reducible refine Stop.mk ?_); (conv => whnf); first | with_reducible refine br_t ?_ | with_reducible refine br_f ?_ | with_reducible refine br_nn ?_ | with_reducible refine br_ns ?_ | with_reducible refine br_not ?_ | ((with_reducible refine br_d (fun h => ?_) (fun h => ?_)) <;> try (exfalso; omega)) | ((with_reducible refine br_e (fun h => ?_) (fun h => ?_)) <;> try (exfalso; omega)) | ((with_reducible refine br_n (fun h => ?_) (fun h => ?_)) <;> try (exfalso; omega)) | with_reducible refine drw (by kernel_rfl) ?_ | with_reducible refine chk (by kernel_rfl) ?_ | with_reducible refine stop ?_)
    all_goals refine Stop.mk ?_
    · have hr0 := hres 6 (by unfold whyC; rw [IntKind.wrap_u64] at *; rw [if_neg (by omega), if_pos (by omega)])
      rw [if_neg (by first | decide | assumption)] at hr0
      rw [hr0] at hrd
      refine call_fn [] (step_fn _ A bs.length c a 0 (0) (6)) rfl trivial (by decide) ?_
      rintro sv H' G' ⟨rfl, rfl, rfl⟩ -
      refine ⟨by simp, ?_⟩
      rw [if_pos (by first | decide | assumption)]
      repeat' ((fail_if_success with_reducible refine Stop.mk ?_); (conv => whnf); first | with_reducible refine br_t ?_ | with_reducible refine br_f ?_ | with_reducible refine br_nn ?_ | with_reducible refine br_ns ?_ | with_reducible refine br_not ?_ | ((with_reducible refine br_d (fun h => ?_) (fun h => ?_)) <;> try (exfalso; omega)) | ((with_reducible refine br_e (fun h => ?_) (fun h => ?_)) <;> try (exfalso; omega)) | ((with_reducible refine br_n (fun h => ?_) (fun h => ?_)) <;> try (exfalso; omega)) | with_reducible refine drw (by kernel_rfl) ?_ | with_reducible refine chk (by kernel_rfl) ?_ | with_reducible refine stop ?_)
      all_goals refine Stop.mk ?_
      refine fin_id hE 0 rfl rfl rfl rfl ⟨⟨none, 0, ?_, ?_⟩, rfl, rfl⟩ <;> rw [hrd]
      · rfl
      · exact slB_nil _
    · refine ⟨by omega, ?_⟩
      have hlen : IntKind.i64.wrap (((bs.drop a).length : Int) - d.2.1) = (bs.drop a).length - d.2.1 := i64_in (by omega) (by omega)
      rw [hlen, Int.tdiv_eq_ediv_of_nonneg (by omega)]
      have hq0 : 0 ≤ (((bs.drop a).length : Int) - d.2.1) / r.b := Int.ediv_nonneg (by omega) (by omega)
      have hq1 : (((bs.drop a).length : Int) - d.2.1) / r.b ≤ ((bs.drop a).length : Int) - d.2.1 := Int.ediv_le_self _ (by omega)
      have hq : IntKind.u64.wrap (IntKind.i64.wrap ((((bs.drop a).length : Int) - d.2.1) / r.b)) = (((bs.drop a).length : Int) - d.2.1) / r.b := by
        rw [i64_in (by omega) (by omega), u64_in (by omega) (by omega)]
      repeat' ((fail_if_success with_reducible refine Stop.mk ?_); (conv => whnf); first | with_reducible refine br_t ?_ | with_reducible refine br_f ?_ | with_reducible refine br_nn ?_ | with_reducible refine br_ns ?_ | with_reducible refine br_not ?_ | ((with_reducible refine br_d (fun h => ?_) (fun h => ?_)) <;> try (exfalso; omega)) | ((with_reducible refine br_e (fun h => ?_) (fun h => ?_)) <;> try (exfalso; omega)) | ((with_reducible refine br_n (fun h => ?_) (fun h => ?_)) <;> try (exfalso; omega)) | with_reducible refine drw (by kernel_rfl) ?_ | with_reducible refine chk (by kernel_rfl) ?_ | with_reducible refine stop ?_)
      all_goals refine Stop.mk ?_
      · have hr0 := hres 1 (by unfold whyC; rw [IntKind.wrap_u64] at *; rw [if_neg (by omega), if_neg (by omega), if_pos (by omega)])
        rw [if_neg (by first | decide | assumption)] at hr0
        rw [hr0] at hrd
        refine call_fn [] (step_fn _ A bs.length c a 0 (0) (1)) rfl trivial (by decide) ?_
        rintro sv H' G' ⟨rfl, rfl, rfl⟩ -
        refine ⟨by simp, ?_⟩
        rw [if_pos (by first | decide | assumption)]
        repeat' ((fail_if_success with_reducible refine Stop.mk ?_); (conv => whnf); first | with_reducible refine br_t ?_ | with_reducible refine br_f ?_ | with_reducible refine br_nn ?_ | with_reducible refine br_ns ?_ | with_reducible refine br_not ?_ | ((with_reducible refine br_d (fun h => ?_) (fun h => ?_)) <;> try (exfalso; omega)) | ((with_reducible refine br_e (fun h => ?_) (fun h => ?_)) <;> try (exfalso; omega)) | ((with_reducible refine br_n (fun h => ?_) (fun h => ?_)) <;> try (exfalso; omega)) | with_reducible refine drw (by kernel_rfl) ?_ | with_reducible refine chk (by kernel_rfl) ?_ | with_reducible refine stop ?_)
        all_goals refine Stop.mk ?_
        refine fin_id hE 0 rfl rfl rfl rfl ⟨⟨none, 0, ?_, ?_⟩, rfl, rfl⟩ <;> rw [hrd]
        · rfl
        · exact slB_nil _
      · skip
        have hr0 := hres 0 (by unfold whyC; rw [IntKind.wrap_u64] at *; rw [if_neg (by omega), if_neg (by omega), if_neg (by omega)])
        rw [if_pos rfl] at hr0
        rw [hr0] at hrd
        refine call_fn [] (step_fn _ A bs.length c a 0 (d.2.1) (0)) rfl trivial (by decide) ?_
        rintro sv H' G' ⟨rfl, rfl, rfl⟩ -
        refine ⟨by simp, ?_⟩
        rw [if_neg (by decide)]
        repeat' ((fail_if_success with_reducible refine Stop.mk ?_); (conv => whnf); first | with_reducible refine br_t ?_ | with_reducible refine br_f ?_ | with_reducible refine br_nn ?_ | with_reducible refine br_ns ?_ | with_reducible refine br_not ?_ | ((with_reducible refine br_d (fun h => ?_) (fun h => ?_)) <;> try (exfalso; omega)) | ((with_reducible refine br_e (fun h => ?_) (fun h => ?_)) <;> try (exfalso; omega)) | ((with_reducible refine br_n (fun h => ?_) (fun h => ?_)) <;> try (exfalso; omega)) | with_reducible refine drw (by kernel_rfl) ?_ | with_reducible refine chk (by kernel_rfl) ?_ | with_reducible refine stop ?_)
        all_goals refine Stop.mk ?_
        have e1 : IntKind.i64.wrap ((a : Int) + d.2.1) = ((a + d.2.1.toNat : Nat) : Int) := by rw [i64_in (by omega) (by omega)]; omega
        refine fin_id hE 0 rfl rfl rfl rfl ⟨⟨none, 0, ?_, ?_⟩, rfl, rfl⟩ <;> rw [hrd]
        · show SV.tup [curS A bs.length c _ 0, _, _] = _
          rw [e1]
          rfl
        · exact slB_nil _
    · skip
      have hr0 := hres 0 (by unfold whyC; rw [IntKind.wrap_u64] at *; rw [if_neg (by omega), if_neg (by omega), if_neg (by omega)])
      rw [if_pos rfl] at hr0
      rw [hr0] at hrd
      refine call_fn [] (step_fn _ A bs.length c a 0 (d.2.1) (0)) rfl trivial (by decide) ?_
      rintro sv H' G' ⟨rfl, rfl, rfl⟩ -
      refine ⟨by simp, ?_⟩
      rw [if_neg (by decide)]
      repeat' ((fail_if_success with_reducible refine Stop.mk ?_); (conv => whnf); first | with_reducible refine br_t ?_ | with_reducible refine br_f ?_ | with_reducible refine br_nn ?_ | with_reducible refine br_ns ?_ | with_reducible refine br_not ?_ | ((with_reducible refine br_d (fun h => ?_) (fun h => ?_)) <;> try (exfalso; omega)) | ((with_reducible refine br_e (fun h => ?_) (fun h => ?_)) <;> try (exfalso; omega)) | ((with_reducible refine br_n (fun h => ?_) (fun h => ?_)) <;> try (exfalso; omega)) | with_reducible refine drw (by kernel_rfl) ?_ | with_reducible refine chk (by kernel_rfl) ?_ | with_reducible refine stop ?_)
      all_goals refine Stop.mk ?_
      have e1 : IntKind.i64.wrap ((a : Int) + d.2.1) = ((a + d.2.1.toNat : Nat) : Int) := by rw [i64_in (by omega) (by omega)]; omega
      refine fin_id hE 0 rfl rfl rfl rfl ⟨⟨none, 0, ?_, ?_⟩, rfl, rfl⟩ <;> rw [hrd]
      · show SV.tup [curS A bs.length c _ 0, _, _] = _
        rw [e1]
        rfl
      · exact slB_nil _
    · have hr0 := hres d.2.2 (by unfold whyC; rw [if_pos (by assumption)])
      rw [if_neg (by first | decide | assumption)] at hr0
      rw [hr0] at hrd
      refine call_fn [] (step_fn _ A bs.length c a 0 (0) (d.2.2)) rfl trivial (by decide) ?_
      rintro sv H' G' ⟨rfl, rfl, rfl⟩ -
      refine ⟨by simp, ?_⟩
      rw [if_pos (by first | decide | assumption)]
      repeat' ((fail_if_success with_reducible refine Stop.mk ?_); (conv => whnf); first | with_reducible refine br_t ?_ | with_reducible refine br_f ?_ | with_reducible refine br_nn ?_ | with_reducible refine br_ns ?_ | with_reducible refine br_not ?_ | ((with_reducible refine br_d (fun h => ?_) (fun h => ?_)) <;> try (exfalso; omega)) | ((with_reducible refine br_e (fun h => ?_) (fun h => ?_)) <;> try (exfalso; omega)) | ((with_reducible refine br_n (fun h => ?_) (fun h => ?_)) <;> try (exfalso; omega)) | with_reducible refine drw (by kernel_rfl) ?_ | with_reducible refine chk (by kernel_rfl) ?_ | with_reducible refine stop ?_)
      all_goals refine Stop.mk ?_
      refine fin_id hE 0 rfl rfl rfl rfl ⟨⟨none, 0, ?_, ?_⟩, rfl, rfl⟩ <;> rw [hrd]
      · rfl
      · exact slB_nil _
  · have hbd := isB_drop hb a
    refine call_fn [] (refGet_fn _ A' (c - a) (bs.drop a) hbd hs') rfl trivial (by decide) ?_
    rintro sv H' G' ⟨rfl, rfl, rfl⟩ -
    refine ⟨by simp, ?_⟩
    have hform := vdec_form hbd
    obtain ⟨most, hmost⟩ : ∃ most : Int, most = if r.k = 2 then r.m else 18446744073709551615 := ⟨_, rfl⟩
    have hcu : cUint bs a 0 most = if whyU most (vdec 0 (bs.drop a)) = 0 then ((vdec 0 (bs.drop a)).1, a + (vdec 0 (bs.drop a)).2.1.toNat, 0) else (0, a, whyU most (vdec 0 (bs.drop a))) := by
      unfold cUint; rw [if_neg (by decide)]
    have hrd : rdS bs a 0 r = ⟨if r.k = 2 then (cUint bs a 0 most).1 else IntKind.u64.wrap (unzig (cUint bs a 0 most).1), [], (cUint bs a 0 most).2.1, (cUint bs a 0 most).2.2⟩ := by
      unfold rdS; rw [if_neg (by omega), if_neg (by omega)]
      by_cases h2 : r.k = 2
      · rw [if_pos h2, if_pos h2]; rw [if_pos h2] at hmost; rw [hmost]
      · have h3 : r.k = 3 := three hk h2 (by assumption) (by assumption) (by assumption) (by assumption) (by assumption)
        rw [if_neg h2, if_pos h3, if_neg h2]; rw [if_neg h2] at hmost; rw [hmost]
    have hm2 : (r.k = 2 → most = r.m) ∧ (r.k ≠ 2 → most = 18446744073709551615) := by rw [hmost]; constructor <;> intro h <;> simp [h]
    have hd0 : 0 ≤ (vdec 0 (bs.drop a)).1 ∧ (vdec 0 (bs.drop a)).1 < 18446744073709551616 ∧ 0 ≤ (vdec 0 (bs.drop a)).2.1 ∧ (vdec 0 (bs.drop a)).2.1 ≤ (bs.drop a).length := by
      rcases hform with ⟨x, hx, h⟩ | ⟨n, m, h, h3, h4, h5, _⟩ <;> rw [h] <;> simp only [] <;> omega
    clear hmost hform
    unfold getR
    generalize vdec 0 (bs.drop a) = d at *
    repeat' ((fail_if_success with_reducible refine Stop.mk ?_); (conv => whnf); first | with_reducible refine br_t ?_ | with_reducible refine br_f ?_ | with_reducible refine br_nn ?_ | with_reducible refine br_ns ?_ | with_reducible refine br_not ?_ | ((with_reducible refine br_d (fun h => ?_) (fun h => ?_)) <;> try (exfalso; omega)) | ((with_reducible refine br_e (fun h => ?_) (fun h => ?_)) <;> try (exfalso; omega)) | ((with_reducible refine br_n (fun h => ?_) (fun h => ?_)) <;> try (exfalso; omega)) | with_reducible refine drw (by kernel_rfl) ?_ | with_reducible refine chk (by kernel_rfl) ?_ | with_reducible refine stop ?_)
    all_goals refine Stop.mk ?_
    · have hw : whyU most d = 6 := by unfold whyU; rw [if_pos (by omega)]
      rw [hw, if_neg (by first | decide | assumption)] at hcu
      have hx0 : (if r.k = 2 then (0 : Int) else IntKind.u64.wrap (unzig 0)) = 0 := by split <;> decide
      rw [hcu] at hrd
      dsimp only at hrd
      rw [hx0] at hrd
      refine call_fn [] (step_fn _ A bs.length c a 0 (0) (6)) rfl trivial (by decide) ?_
      rintro sv H' G' ⟨rfl, rfl, rfl⟩ -
      refine ⟨by simp, ?_⟩
      rw [if_pos (by first | decide | assumption)]
      repeat' ((fail_if_success with_reducible refine Stop.mk ?_); (conv => whnf); first | with_reducible refine br_t ?_ | with_reducible refine br_f ?_ | with_reducible refine br_nn ?_ | with_reducible refine br_ns ?_ | with_reducible refine br_not ?_ | ((with_reducible refine br_d (fun h => ?_) (fun h => ?_)) <;> try (exfalso; omega)) | ((with_reducible refine br_e (fun h => ?_) (fun h => ?_)) <;> try (exfalso; omega)) | ((with_reducible refine br_n (fun h => ?_) (fun h => ?_)) <;> try (exfalso; omega)) | with_reducible refine drw (by kernel_rfl) ?_ | with_reducible refine chk (by kernel_rfl) ?_ | with_reducible refine stop ?_)
      all_goals refine Stop.mk ?_
      refine fin_id hE 0 rfl rfl rfl rfl ⟨⟨none, 0, ?_, ?_⟩, rfl, rfl⟩ <;> rw [hrd]
      · rfl
      · exact slB_nil _
    · have hw : whyU most d = 0 := by unfold whyU; rw [if_neg (by omega)]; assumption
      rw [hw, if_pos rfl] at hcu
      rw [hcu] at hrd
      dsimp only at hrd
      rw [if_pos (by assumption)] at hrd
      refine call_fn [] (step_fn _ A bs.length c a 0 (d.2.1) (0)) rfl trivial (by decide) ?_
      rintro sv H' G' ⟨rfl, rfl, rfl⟩ -
      refine ⟨by simp, ?_⟩
      rw [if_neg (by decide)]
      repeat' ((fail_if_success with_reducible refine Stop.mk ?_); (conv => whnf); first | with_reducible refine br_t ?_ | with_reducible refine br_f ?_ | with_reducible refine br_nn ?_ | with_reducible refine br_ns ?_ | with_reducible refine br_not ?_ | ((with_reducible refine br_d (fun h => ?_) (fun h => ?_)) <;> try (exfalso; omega)) | ((with_reducible refine br_e (fun h => ?_) (fun h => ?_)) <;> try (exfalso; omega)) | ((with_reducible refine br_n (fun h => ?_) (fun h => ?_)) <;> try (exfalso; omega)) | with_reducible refine drw (by kernel_rfl) ?_ | with_reducible refine chk (by kernel_rfl) ?_ | with_reducible refine stop ?_)
      all_goals refine Stop.mk ?_
      have e1 : IntKind.i64.wrap ((a : Int) + d.2.1) = ((a + d.2.1.toNat : Nat) : Int) := by rw [i64_in (by omega) (by omega)]; omega
      refine fin_id hE 0 rfl rfl rfl rfl ⟨⟨none, 0, ?_, ?_⟩, rfl, rfl⟩ <;> rw [hrd]
      · show SV.tup [curS A bs.length c _ 0, _, _] = _
        rw [e1]
        rfl
      · exact slB_nil _
    · have hw : whyU most d = 0 := by unfold whyU; rw [if_neg (by omega)]; assumption
      rw [hw, if_pos rfl] at hcu
      rw [hcu] at hrd
      dsimp only at hrd
      rw [if_neg (by omega)] at hrd
      refine call_fn [] (refUnzigzag_fn _ d.1 hd0.1 hd0.2.1) rfl trivial (by decide) ?_
      rintro sv H' G' ⟨rfl, rfl, rfl⟩ -
      refine ⟨by simp, ?_⟩
      repeat' ((fail_if_success with_reducible refine Stop.mk ?_); (conv => whnf); first | with_reducible refine br_t ?_ | with_reducible refine br_f ?_ | with_reducible refine br_nn ?_ | with_reducible refine br_ns ?_ | with_reducible refine br_not ?_ | ((with_reducible refine br_d (fun h => ?_) (fun h => ?_)) <;> try (exfalso; omega)) | ((with_reducible refine br_e (fun h => ?_) (fun h => ?_)) <;> try (exfalso; omega)) | ((with_reducible refine br_n (fun h => ?_) (fun h => ?_)) <;> try (exfalso; omega)) | with_reducible refine drw (by kernel_rfl) ?_ | with_reducible refine chk (by kernel_rfl) ?_ | with_reducible refine stop ?_)
      all_goals refine Stop.mk ?_
      refine call_fn [] (step_fn _ A bs.length c a 0 (d.2.1) (0)) rfl trivial (by decide) ?_
      rintro sv H' G' ⟨rfl, rfl, rfl⟩ -
      refine ⟨by simp, ?_⟩
      rw [if_neg (by decide)]
      repeat' ((fail_if_success with_reducible refine Stop.mk ?_); (conv => whnf); first | with_reducible refine br_t ?_ | with_reducible refine br_f ?_ | with_reducible refine br_nn ?_ | with_reducible refine br_ns ?_ | with_reducible refine br_not ?_ | ((with_reducible refine br_d (fun h => ?_) (fun h => ?_)) <;> try (exfalso; omega)) | ((with_reducible refine br_e (fun h => ?_) (fun h => ?_)) <;> try (exfalso; omega)) | ((with_reducible refine br_n (fun h => ?_) (fun h => ?_)) <;> try (exfalso; omega)) | with_reducible refine drw (by kernel_rfl) ?_ | with_reducible refine chk (by kernel_rfl) ?_ | with_reducible refine stop ?_)
      all_goals refine Stop.mk ?_
      have e1 : IntKind.i64.wrap ((a : Int) + d.2.1) = ((a + d.2.1.toNat : Nat) : Int) := by rw [i64_in (by omega) (by omega)]; omega
      refine fin_id hE 0 rfl rfl rfl rfl ⟨⟨none, 0, ?_, ?_⟩, rfl, rfl⟩ <;> rw [hrd]
      · show SV.tup [curS A bs.length c _ 0, _, _] = _
        rw [e1]
        rfl
      · exact slB_nil _
    · have hw : whyU most d = d.2.2 := by unfold whyU; rw [if_neg (by omega)]
      rw [hw, if_neg (by first | decide | assumption)] at hcu
      have hx0 : (if r.k = 2 then (0 : Int) else IntKind.u64.wrap (unzig 0)) = 0 := by split <;> decide
      rw [hcu] at hrd
      dsimp only at hrd
      rw [hx0] at hrd
      refine call_fn [] (step_fn _ A bs.length c a 0 (0) (d.2.2)) rfl trivial (by decide) ?_
      rintro sv H' G' ⟨rfl, rfl, rfl⟩ -
      refine ⟨by simp, ?_⟩
      rw [if_pos (by first | decide | assumption)]
      repeat' ((fail_if_success with_reducible refine Stop.mk ?_); (conv => whnf); first | with_reducible refine br_t ?_ | with_reducible refine br_f ?_ | with_reducible refine br_nn ?_ | with_reducible refine br_ns ?_ | with_reducible refine br_not ?_ | ((with_reducible refine br_d (fun h => ?_) (fun h => ?_)) <;> try (exfalso; omega)) | ((with_reducible refine br_e (fun h => ?_) (fun h => ?_)) <;> try (exfalso; omega)) | ((with_reducible refine br_n (fun h => ?_) (fun h => ?_)) <;> try (exfalso; omega)) | with_reducible refine drw (by kernel_rfl) ?_ | with_reducible refine chk (by kernel_rfl) ?_ | with_reducible refine stop ?_)
      all_goals refine Stop.mk ?_
      refine fin_id hE 0 rfl rfl rfl rfl ⟨⟨none, 0, ?_, ?_⟩, rfl, rfl⟩ <;> rw [hrd]
      · rfl
      · exact slB_nil _
end Go.Proofs.Ytihnbkoeaaepiaa.Cu
