/- The cursor: Count, Bytes, New. -/
import Derived.Test.YtgdfhpknhcjipaaCu3
namespace Go.Proofs.Ytgdfhpknhcjipaa.Cu
open Go Go.SX Go.Proofs.Ytgdfhpknhcjipaa.VT
set_option maxRecDepth 100000
set_option linter.unusedVariables false

/-- What Count says of a decoded number. -/
def whyC (most size len : Int) (d : Int × Int × Int) : Int :=
  if d.2.2 ≠ 0 then d.2.2 else if d.1 > most then 6 else if size > 0 ∧ d.1 > (len - d.2.1) / size then 1 else 0
def resC (most size : Int) (bs : List Int) : Int × Int × Int :=
  if most < 0 ∨ size < 0 then (0, 0, 32)
  else if whyC most size bs.length (vdec 0 bs) = 0 then ((vdec 0 bs).1, (vdec 0 bs).2.1, 0) else (0, 0, whyC most size bs.length (vdec 0 bs))
set_option maxHeartbeats 8000000 in
theorem count1_fn (G : Gh) (A : Option Addr) (c : Nat) (bs : List Int) (most size : Int) (hb : isB bs) (hs : SlB G A c bs) (hm : most ≤ 9223372036854775807) (hz : size ≤ 9223372036854775807) :
    Ct Try.prog 62 [.v (.slice A bs.length c), .p 0 0, .p 1 0, .p 2 0] [intO most, intO size, intO 0] G fun sv H' G' =>
      sv = .tup [.v (.int .i64 (resC most size bs).2.1), .v (.int .i64 (resC most size bs).2.2)] ∧ H' = [intO most, intO size, intO (resC most size bs).1] ∧ G' = G := by
  have hc := hs.cap
  have htop := hs.top
  refine fn_of follows [] Try.func62 rfl rfl fun E hE => ?_
  repeat' ((fail_if_success with_reducible refine Stop.mk ?_); (conv => whnf); with_reducible first | refine br_t ?_ | refine br_f ?_ | refine br_nn ?_ | refine br_ns ?_ | refine br_not ?_ | refine br_d (fun h => ?_) (fun h => ?_) | refine br_e (fun h => ?_) (fun h => ?_) | refine br_n (fun h => ?_) (fun h => ?_) | refine drw (by kernel_rfl) ?_ | refine chk (by kernel_rfl) ?_ | refine stop ?_)
  all_goals refine Stop.mk ?_
  · have hr : resC most size bs = (0, 0, 32) := if_pos (by omega)
    exact fin_all ⟨by rw [hr], by rw [hr], rfl⟩
  · have hr : resC most size bs = (0, 0, 32) := if_pos (by omega)
    exact fin_all ⟨by rw [hr], by rw [hr], rfl⟩
  refine call_fn [] (get_fn G A c bs hb hs) rfl trivial (by decide) ?_
  rintro sv H' G' ⟨rfl, rfl, rfl⟩ _
  refine ⟨Nat.zero_le _, ?_⟩
  have hd0 : 0 ≤ (vdec 0 bs).1 ∧ (vdec 0 bs).1 < 18446744073709551616 ∧ 0 ≤ (vdec 0 bs).2.1 ∧ (vdec 0 bs).2.1 ≤ bs.length := by
    rcases vdec_form hb with ⟨x, hx, h⟩ | ⟨n, m, h, h3, h4, h5, _⟩ <;> rw [h] <;> simp <;> omega
  have hres : ∀ y, whyC most size bs.length (vdec 0 bs) = y → resC most size bs = if y = 0 then ((vdec 0 bs).1, (vdec 0 bs).2.1, 0) else (0, 0, y) := by
    intro y hy; subst hy; unfold resC; rw [if_neg (by omega)]
  unfold getR
  generalize vdec 0 bs = d at *
  repeat' ((fail_if_success with_reducible refine Stop.mk ?_); (conv => whnf); with_reducible first | refine br_t ?_ | refine br_f ?_ | refine br_nn ?_ | refine br_ns ?_ | refine br_not ?_ | refine br_d (fun h => ?_) (fun h => ?_) | refine br_e (fun h => ?_) (fun h => ?_) | refine br_n (fun h => ?_) (fun h => ?_) | refine drw (by kernel_rfl) ?_ | refine chk (by kernel_rfl) ?_ | refine stop ?_)
  all_goals refine Stop.mk ?_
  · have hr := hres 6 (by unfold whyC; rw [IntKind.wrap_u64] at *; rw [if_neg (by omega), if_pos (by omega)])
    exact fin_all ⟨by rw [hr]; try rfl, by rw [hr]; try rfl, rfl⟩
  · refine ⟨by omega, ?_⟩
    have hlen : IntKind.i64.wrap ((bs.length : Int) - d.2.1) = bs.length - d.2.1 := i64_in (by omega) (by omega)
    rw [hlen, Int.tdiv_eq_ediv_of_nonneg (by omega)]
    have hq0 : 0 ≤ ((bs.length : Int) - d.2.1) / size := Int.ediv_nonneg (by omega) (by omega)
    have hq1 : ((bs.length : Int) - d.2.1) / size ≤ (bs.length : Int) - d.2.1 := Int.ediv_le_self _ (by omega)
    have hq : IntKind.u64.wrap (IntKind.i64.wrap (((bs.length : Int) - d.2.1) / size)) = ((bs.length : Int) - d.2.1) / size := by
      rw [i64_in (by omega) (by omega), u64_in (by omega) (by omega)]
    repeat' ((fail_if_success with_reducible refine Stop.mk ?_); (conv => whnf); with_reducible first | refine br_t ?_ | refine br_f ?_ | refine br_nn ?_ | refine br_ns ?_ | refine br_not ?_ | refine br_d (fun h => ?_) (fun h => ?_) | refine br_e (fun h => ?_) (fun h => ?_) | refine br_n (fun h => ?_) (fun h => ?_) | refine drw (by kernel_rfl) ?_ | refine chk (by kernel_rfl) ?_ | refine stop ?_)
    all_goals refine Stop.mk ?_
    · have hr := hres 1 (by unfold whyC; rw [IntKind.wrap_u64] at *; rw [if_neg (by omega), if_neg (by omega), if_pos (by omega)])
      exact fin_all ⟨by rw [hr]; try rfl, by rw [hr]; try rfl, rfl⟩
    · have hr := hres 0 (by unfold whyC; rw [IntKind.wrap_u64] at *; rw [if_neg (by omega), if_neg (by omega), if_neg (by omega)])
      rw [i64_in (n := d.1) (by omega) (by rw [IntKind.wrap_u64] at *; omega)]
      exact fin_all ⟨by rw [hr]; try rfl, by rw [hr]; try rfl, rfl⟩
  · have hr := hres 0 (by unfold whyC; rw [IntKind.wrap_u64] at *; rw [if_neg (by omega), if_neg (by omega), if_neg (by omega)])
    rw [i64_in (n := d.1) (by omega) (by rw [IntKind.wrap_u64] at *; omega)]
    exact fin_all ⟨by rw [hr]; try rfl, by rw [hr]; try rfl, rfl⟩
  · have hne : d.2.2 ≠ 0 := by assumption
    have hr := hres d.2.2 (by unfold whyC; rw [if_pos hne])
    rw [if_neg hne] at hr
    exact fin_all ⟨by rw [hr], by rw [hr]; try rfl, rfl⟩
/-- The cursor behind Count. -/
def cCount (bs : List Int) (a : Nat) (e : Int) (most size : Int) : Int × Nat × Int :=
  if e ≠ 0 then (0, a, e) else
    ((resC most size (bs.drop a)).1, a + (resC most size (bs.drop a)).2.1.toNat, (resC most size (bs.drop a)).2.2)
theorem resC_form {l : List Int} (hb : isB l) (most size : Int) : (∃ e : Int, e ≠ 0 ∧ resC most size l = (0, 0, e)) ∨
    (∃ n m : Nat, 0 ≤ most ∧ 0 ≤ size ∧ resC most size l = ((n : Int), (m : Int), 0) ∧ vdec 0 l = ((n : Int), (m : Int), 0) ∧ (n : Int) ≤ most ∧ (size > 0 → (n : Int) ≤ ((l.length : Int) - m) / size) ∧ m ≤ l.length ∧ 0 < m) := by
  unfold resC
  by_cases h : most < 0 ∨ size < 0
  · rw [if_pos h]; exact .inl ⟨32, by decide, rfl⟩
  · rw [if_neg h]
    by_cases hw : whyC most size l.length (vdec 0 l) = 0
    · rw [if_pos hw]
      rcases vdec_form hb with ⟨x, hx, h0⟩ | ⟨n, m, h0, h3, h4, h5, _⟩
      · rw [h0] at hw; unfold whyC at hw; rw [if_pos (by simp; omega)] at hw; simp only at hw; omega
      · refine .inr ⟨n, m, by omega, by omega, by rw [h0], h0, ?_, fun hs => ?_, h5, h4⟩ <;>
          (rw [h0] at hw; unfold whyC at hw; rw [if_neg (by simp)] at hw; simp only at hw; split at hw <;> try omega)
    · rw [if_neg hw]; exact .inl ⟨_, hw, rfl⟩
theorem count_fn (G : Gh) (A : Option Addr) (bs : List Int) (c a : Nat) (e most size : Int) (hb : isB bs) (hs : SlB G A c bs) (ha : a ≤ bs.length) (hm : most ≤ 9223372036854775807) (hz : size ≤ 9223372036854775807) :
    Ct Try.prog 48 [.p 0 0, .v (.int .i64 most), .v (.int .i64 size)] [curO A bs.length c a e] G fun sv H' G' =>
      sv = .v (.int .i64 (cCount bs a e most size).1) ∧ H' = [curO A bs.length c (cCount bs a e most size).2.1 (cCount bs a e most size).2.2] ∧ G' = G := by
  refine fn_of follows [] Try.func48 rfl rfl fun E hE => ?_
  repeat' ((fail_if_success with_reducible refine Stop.mk ?_); (conv => whnf); with_reducible first | refine br_t ?_ | refine br_f ?_ | refine br_nn ?_ | refine br_ns ?_ | refine br_not ?_ | refine br_d (fun h => ?_) (fun h => ?_) | refine br_e (fun h => ?_) (fun h => ?_) | refine br_n (fun h => ?_) (fun h => ?_) | refine drw (by kernel_rfl) ?_ | refine chk (by kernel_rfl) ?_ | refine stop ?_)
  all_goals refine Stop.mk ?_
  have hbd := isB_drop hb a
  have hl : (bs.drop a).length = bs.length - a := by simp
  have hform := resC_form hbd most size
  refine call_fn [0, 1, 2, 3] (read_fn3 G A bs c a e 62 (intO most) (intO size) (intO 0)
    (fun r why y1 y2 y3 G' => (r : Int) = (resC most size (bs.drop a)).2.1 ∧ why = (resC most size (bs.drop a)).2.2 ∧ y1 = intO most ∧ y2 = intO size ∧ y3 = intO (resC most size (bs.drop a)).1 ∧ G' = G) hs ha ?_ ?_) rfl ⟨rfl, rfl, rfl, rfl, trivial⟩ (by decide) ?_
  · rintro r why y1 y2 y3 G' ⟨h1, h2, _⟩ h0
    rcases hform with ⟨x, hx, h⟩ | ⟨n, m, _, _, h, _, _, _, h5, _⟩ <;> rw [h] at h1 <;> simp at h1 <;> omega
  · intro he E fr A' K hs' hK
    refine call_fn [1, 2, 3] (count1_fn G A' (c - a) (bs.drop a) most size hbd hs' hm hz) rfl ⟨rfl, rfl, rfl, trivial⟩ (by decide) ?_
    rintro sv H' G' ⟨rfl, rfl, rfl⟩ hg
    obtain ⟨m, hm⟩ : ∃ m : Nat, (m : Int) = (resC most size (bs.drop a)).2.1 := by
      rcases hform with ⟨x, hx, h⟩ | ⟨n, m, _, _, h, _⟩
      · exact ⟨0, by rw [h]; try rfl⟩
      · exact ⟨m, by rw [h]⟩
    rw [← hm]
    exact ⟨by simp, callEnd_cells rfl (hK _ m _ _ _ _ _ ⟨hm, rfl, rfl, rfl, rfl, rfl⟩ hg)⟩
  · rintro sv H' G' ⟨rfl, hR⟩ hg
    rcases hR with ⟨he, rfl, rfl⟩ | ⟨rfl, r, why, y1, y2, y3, ⟨h1, rfl, rfl, rfl, rfl, rfl⟩, rfl⟩
    · refine ⟨by simp, ?_⟩
      repeat' ((fail_if_success with_reducible refine Stop.mk ?_); (conv => whnf); with_reducible first | refine br_t ?_ | refine br_f ?_ | refine br_nn ?_ | refine br_ns ?_ | refine br_not ?_ | refine br_d (fun h => ?_) (fun h => ?_) | refine br_e (fun h => ?_) (fun h => ?_) | refine br_n (fun h => ?_) (fun h => ?_) | refine drw (by kernel_rfl) ?_ | refine chk (by kernel_rfl) ?_ | refine stop ?_)
      all_goals refine Stop.mk ?_
      have hc : cCount bs a e most size = (0, a, e) := if_pos he
      refine fin_id hE 1 rfl rfl rfl rfl ⟨?_, ?_, rfl⟩ <;> rw [hc]
      rfl
    · refine ⟨by simp, ?_⟩
      repeat' ((fail_if_success with_reducible refine Stop.mk ?_); (conv => whnf); with_reducible first | refine br_t ?_ | refine br_f ?_ | refine br_nn ?_ | refine br_ns ?_ | refine br_not ?_ | refine br_d (fun h => ?_) (fun h => ?_) | refine br_e (fun h => ?_) (fun h => ?_) | refine br_n (fun h => ?_) (fun h => ?_) | refine drw (by kernel_rfl) ?_ | refine chk (by kernel_rfl) ?_ | refine stop ?_)
      all_goals refine Stop.mk ?_
      have hc : cCount bs a 0 most size = ((resC most size (bs.drop a)).1, a + (resC most size (bs.drop a)).2.1.toNat, (resC most size (bs.drop a)).2.2) := if_neg (by decide)
      refine fin_id hE 1 rfl rfl rfl rfl ⟨?_, ?_, rfl⟩ <;> rw [hc]
      show [curO A bs.length c _ _] = _
      rw [← h1, Int.toNat_natCast]
      by_cases hne : (resC most size (bs.drop a)).2.2 = 0
      · rw [if_pos hne]
      · rw [if_neg hne]
        have h0 : (resC most size (bs.drop a)).2.1 = 0 := by
          rcases hform with ⟨x, hx, h⟩ | ⟨n, m, _, _, h, _⟩
          · rw [h]
          · rw [h] at hne; simp at hne
        obtain rfl : r = 0 := by omega
        rfl

/-! ### Bytes -/
def slO (A : Option Addr) (n c : Nat) : Ob := .cells 22 [.v (.slice A n c)]
theorem bytes1_fn (G : Gh) (A : Option Addr) (c : Nat) (bs : List Int) (n : Int) (hs : SlB G A c bs) (hlen : bs.length ≤ 140737488355328) (hnn : n ≤ 9223372036854775807) :
    Ct Try.prog 58 [.v (.slice A bs.length c), .p 0 0, .p 1 0] [intO n, slO none 0 0] G fun sv H' G' =>
      if n < 0 then sv = .tup [.v (.int .i64 0), .v (.int .i64 32)] ∧ H' = [intO n, slO none 0 0] ∧ G' = G
      else if n > bs.length then sv = .tup [.v (.int .i64 0), .v (.int .i64 1)] ∧ H' = [intO n, slO none 0 0] ∧ G' = G
      else sv = .tup [.v (.int .i64 n), .v (.int .i64 0)] ∧ ∃ A' c', H' = [intO n, slO A' n.toNat c'] ∧ SlB G' A' c' (bs.take n.toNat) := by
  have hc := hs.cap
  have htop := hs.top
  refine fn_of follows [(5, (.cons 0 [] (.cons 1 [] (.cons 2 [] (.cons 3 [] (.cons 4 [0, 2] (.cons 5 [0, 2] .nil)))))))] Try.func58 rfl rfl fun E hE => ?_
  repeat' ((fail_if_success with_reducible refine Stop.mk ?_); (conv => whnf); with_reducible first | refine br_t ?_ | refine br_f ?_ | refine br_nn ?_ | refine br_ns ?_ | refine br_not ?_ | refine br_d (fun h => ?_) (fun h => ?_) | refine br_e (fun h => ?_) (fun h => ?_) | refine br_n (fun h => ?_) (fun h => ?_) | refine drw (by kernel_rfl) ?_ | refine chk (by kernel_rfl) ?_ | refine stop ?_)
  all_goals refine Stop.mk ?_
  · exact fin_all (by rw [if_pos (by assumption)]; exact ⟨rfl, rfl, rfl⟩)
  · exact fin_all (by rw [if_neg (by omega), if_pos (by assumption)]; exact ⟨rfl, rfl, rfl⟩)
  · refine ⟨⟨by omega, by omega⟩, fun A' hA' => ?_⟩
    obtain rfl : A' = A := by rw [hA']; split; · rfl
                              cases A <;> simp [Addr.add]
    repeat' ((fail_if_success with_reducible refine Stop.mk ?_); (conv => whnf); with_reducible first | refine br_t ?_ | refine br_f ?_ | refine br_nn ?_ | refine br_ns ?_ | refine br_not ?_ | refine br_d (fun h => ?_) (fun h => ?_) | refine br_e (fun h => ?_) (fun h => ?_) | refine br_n (fun h => ?_) (fun h => ?_) | refine drw (by kernel_rfl) ?_ | refine chk (by kernel_rfl) ?_ | refine stop ?_)
    all_goals refine Stop.mk ?_
    refine ⟨byts (bs.take n.toNat), slB_take hs n.toNat (by omega), (by show n.toNat * 1 ≤ _; omega), ?_⟩
    repeat' ((fail_if_success with_reducible refine Stop.mk ?_); (conv => whnf); with_reducible first | refine br_t ?_ | refine br_f ?_ | refine br_nn ?_ | refine br_ns ?_ | refine br_not ?_ | refine br_d (fun h => ?_) (fun h => ?_) | refine br_e (fun h => ?_) (fun h => ?_) | refine br_n (fun h => ?_) (fun h => ?_) | refine drw (by kernel_rfl) ?_ | refine chk (by kernel_rfl) ?_ | refine stop ?_)
    all_goals refine Stop.mk ?_
    refine fin_done 2 rfl (byts_one _) fun A c G2 hg hsl => fin_id hE 2 rfl rfl rfl rfl ?_
    rw [if_neg (by assumption), if_neg (by assumption)]
    refine ⟨rfl, A, c, rfl, ?_⟩
    unfold SlB
    rw [List.length_take, Nat.min_eq_left (by omega)]
    exact hsl
end Go.Proofs.Ytgdfhpknhcjipaa.Cu
