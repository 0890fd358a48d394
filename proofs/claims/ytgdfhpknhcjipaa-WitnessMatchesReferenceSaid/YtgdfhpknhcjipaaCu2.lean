/- The cursor: the reads. -/
import Derived.Test.YtgdfhpknhcjipaaCu1
namespace Go.Proofs.Ytgdfhpknhcjipaa.Cu
open Go Go.SX Go.Proofs.Ytgdfhpknhcjipaa.VT
set_option maxRecDepth 100000
set_option linter.unusedVariables false

theorem vdec_form {l : List Int} (hb : isB l) : (∃ e : Int, (e = 1 ∨ e = 3) ∧ vdec 0 l = (0, 0, e)) ∨ (∃ n m : Nat, vdec 0 l = ((n : Int), (m : Int), 0) ∧ n < 18446744073709551616 ∧ 0 < m ∧ m ≤ l.length ∧ m ≤ 10 ∧ l.take m = vput 9 n) := by
  rcases vdec_spec l 0 (by omega) hb with h | ⟨n, m, h1, h2, _, h3, h4, h5, h6⟩
  · exact .inl h
  · exact .inr ⟨n, m, by simpa using h1, by simpa using h2, h3, h4, by omega, by simpa using h6⟩
theorem isB_drop {l : List Int} (h : isB l) (k : Nat) : isB (l.drop k) := fun x hx => h x (List.mem_of_mem_drop hx)
theorem isB_take {l : List Int} (h : isB l) (k : Nat) : isB (l.take k) := fun x hx => h x (List.mem_of_mem_take hx)

/-! ### Uint -/
def whyU (most : Int) (d : Int × Int × Int) : Int := if d.2.2 = 0 ∧ d.1 > most then 6 else d.2.2
def u64O (x : Int) : Ob := .cells 67 [.v (.int .u64 x)]
theorem uint1_fn (G : Gh) (A : Option Addr) (c : Nat) (bs : List Int) (most : Int) (hb : isB bs) (hs : SlB G A c bs) :
    Ct Try.prog 56 [.v (.slice A bs.length c), .p 0 0, .p 1 0] [u64O most, u64O 0] G fun sv H' G' =>
      sv = .tup [.v (.int .i64 (vdec 0 bs).2.1), .v (.int .i64 (whyU most (vdec 0 bs)))] ∧ H' = [u64O most, u64O (if whyU most (vdec 0 bs) = 0 then (vdec 0 bs).1 else 0)] ∧ G' = G := by
  refine fn_of follows [] Try.func56 rfl rfl fun E hE => ?_
  repeat' ((fail_if_success with_reducible refine Stop.mk ?_); (conv => whnf); with_reducible first | refine br_t ?_ | refine br_f ?_ | refine br_nn ?_ | refine br_ns ?_ | refine br_not ?_ | refine br_d (fun h => ?_) (fun h => ?_) | refine br_e (fun h => ?_) (fun h => ?_) | refine br_n (fun h => ?_) (fun h => ?_) | refine drw (by kernel_rfl) ?_ | refine chk (by kernel_rfl) ?_ | refine stop ?_)
  all_goals refine Stop.mk ?_
  refine call_fn [] (get_fn G A c bs hb hs) rfl trivial (by decide) ?_
  rintro sv H' G' ⟨rfl, rfl, rfl⟩ _
  refine ⟨Nat.zero_le _, ?_⟩
  generalize hd : vdec 0 bs = d
  unfold getR
  rw [hd]
  repeat' ((fail_if_success with_reducible refine Stop.mk ?_); (conv => whnf); with_reducible first | refine br_t ?_ | refine br_f ?_ | refine br_nn ?_ | refine br_ns ?_ | refine br_not ?_ | refine br_d (fun h => ?_) (fun h => ?_) | refine br_e (fun h => ?_) (fun h => ?_) | refine br_n (fun h => ?_) (fun h => ?_) | refine drw (by kernel_rfl) ?_ | refine chk (by kernel_rfl) ?_ | refine stop ?_)
  all_goals refine Stop.mk ?_
  all_goals try (exfalso; omega)
  · have hw : whyU most d = 6 := if_pos (by omega)
    exact fin_all ⟨by rw [hw], by rw [hw]; try rfl, rfl⟩
  · have hw : whyU most d = d.2.2 := if_neg (by omega)
    have h2 : d.2.2 = 0 := by assumption
    exact fin_all ⟨by rw [hw], by rw [hw, if_pos h2]; try rfl, rfl⟩
  · have hw : whyU most d = d.2.2 := if_neg (by omega)
    have h2 : d.2.2 ≠ 0 := by assumption
    exact fin_all ⟨by rw [hw], by rw [hw, if_neg h2]; try rfl, rfl⟩
/-- The cursor behind Uint: what is read, the offset, the error. -/
def cUint (bs : List Int) (a : Nat) (e : Int) (most : Int) : Int × Nat × Int :=
  if e ≠ 0 then (0, a, e)
  else if whyU most (vdec 0 (bs.drop a)) = 0 then ((vdec 0 (bs.drop a)).1, a + (vdec 0 (bs.drop a)).2.1.toNat, 0)
  else (0, a, whyU most (vdec 0 (bs.drop a)))
theorem uint_fn (G : Gh) (A : Option Addr) (bs : List Int) (c a : Nat) (e most : Int) (hb : isB bs) (hs : SlB G A c bs) (ha : a ≤ bs.length) :
    Ct Try.prog 36 [.p 0 0, .v (.int .u64 most)] [curO A bs.length c a e] G fun sv H' G' =>
      sv = .v (.int .u64 (cUint bs a e most).1) ∧ H' = [curO A bs.length c (cUint bs a e most).2.1 (cUint bs a e most).2.2] ∧ G' = G := by
  refine fn_of follows [] Try.func36 rfl rfl fun E hE => ?_
  repeat' ((fail_if_success with_reducible refine Stop.mk ?_); (conv => whnf); with_reducible first | refine br_t ?_ | refine br_f ?_ | refine br_nn ?_ | refine br_ns ?_ | refine br_not ?_ | refine br_d (fun h => ?_) (fun h => ?_) | refine br_e (fun h => ?_) (fun h => ?_) | refine br_n (fun h => ?_) (fun h => ?_) | refine drw (by kernel_rfl) ?_ | refine chk (by kernel_rfl) ?_ | refine stop ?_)
  all_goals refine Stop.mk ?_
  have hbd := isB_drop hb a
  refine call_fn [0, 1, 2] (read_fn2 G A bs c a e 56 (u64O most) (u64O 0)
    (fun r why y1 y2 G' => (r : Int) = (vdec 0 (bs.drop a)).2.1 ∧ why = whyU most (vdec 0 (bs.drop a)) ∧ y1 = u64O most ∧ y2 = u64O (if whyU most (vdec 0 (bs.drop a)) = 0 then (vdec 0 (bs.drop a)).1 else 0) ∧ G' = G) hs ha ?_ ?_) rfl ⟨rfl, rfl, rfl, trivial⟩ (by decide) ?_
  · rintro r why y1 y2 G' ⟨h1, h2, _⟩ h0
    have hl : (bs.drop a).length = bs.length - a := by simp
    rcases vdec_form hbd with ⟨x, hx, h⟩ | ⟨n, m, h, h3, h4, h5, _⟩ <;> rw [h] at h1 <;> simp at h1 <;> omega
  · intro he E fr A' K hs' hK
    refine call_fn [1, 2] (uint1_fn G A' (c - a) (bs.drop a) most hbd hs') rfl ⟨rfl, rfl, trivial⟩ (by decide) ?_
    rintro sv H' G' ⟨rfl, rfl, rfl⟩ hg
    obtain ⟨m, hm⟩ : ∃ m : Nat, (m : Int) = (vdec 0 (bs.drop a)).2.1 := by
      rcases vdec_form hbd with ⟨x, hx, h⟩ | ⟨n, m, h, _⟩
      · exact ⟨0, by rw [h]; try rfl⟩
      · exact ⟨m, by rw [h]⟩
    rw [← hm]
    exact ⟨by simp, callEnd_cells rfl (hK _ m _ _ _ _ ⟨hm, rfl, rfl, rfl, rfl⟩ hg)⟩
  · rintro sv H' G' ⟨rfl, hR⟩ hg
    rcases hR with ⟨he, rfl, rfl⟩ | ⟨rfl, r, why, y1, y2, ⟨h1, rfl, rfl, rfl, rfl⟩, rfl⟩
    · refine ⟨by simp, ?_⟩
      repeat' ((fail_if_success with_reducible refine Stop.mk ?_); (conv => whnf); with_reducible first | refine br_t ?_ | refine br_f ?_ | refine br_nn ?_ | refine br_ns ?_ | refine br_not ?_ | refine br_d (fun h => ?_) (fun h => ?_) | refine br_e (fun h => ?_) (fun h => ?_) | refine br_n (fun h => ?_) (fun h => ?_) | refine drw (by kernel_rfl) ?_ | refine chk (by kernel_rfl) ?_ | refine stop ?_)
      all_goals refine Stop.mk ?_
      refine fin_id hE 1 rfl rfl rfl rfl ⟨?_, ?_, rfl⟩ <;> unfold cUint <;> rw [if_pos he]
      rfl
    · refine ⟨by simp, ?_⟩
      repeat' ((fail_if_success with_reducible refine Stop.mk ?_); (conv => whnf); with_reducible first | refine br_t ?_ | refine br_f ?_ | refine br_nn ?_ | refine br_ns ?_ | refine br_not ?_ | refine br_d (fun h => ?_) (fun h => ?_) | refine br_e (fun h => ?_) (fun h => ?_) | refine br_n (fun h => ?_) (fun h => ?_) | refine drw (by kernel_rfl) ?_ | refine chk (by kernel_rfl) ?_ | refine stop ?_)
      all_goals refine Stop.mk ?_
      by_cases hw : whyU most (vdec 0 (bs.drop a)) = 0
      · have hc : cUint bs a 0 most = ((vdec 0 (bs.drop a)).1, a + (vdec 0 (bs.drop a)).2.1.toNat, 0) := by
          unfold cUint; rw [if_neg (by decide), if_pos hw]
        refine fin_id hE 1 rfl rfl rfl rfl ⟨?_, ?_, rfl⟩ <;> rw [hc, if_pos hw]
        show [curO A bs.length c _ _] = _
        rw [← h1, Int.toNat_natCast, if_pos hw, hw]
      · have hc : cUint bs a 0 most = (0, a, whyU most (vdec 0 (bs.drop a))) := by
          unfold cUint; rw [if_neg (by decide), if_neg hw]
        refine fin_id hE 1 rfl rfl rfl rfl ⟨?_, ?_, rfl⟩ <;> rw [hc, if_neg hw]
        show [curO A bs.length c _ _] = _
        rw [if_neg hw]
end Go.Proofs.Ytgdfhpknhcjipaa.Cu
