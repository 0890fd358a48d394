/- The cursor: Bytes, New, none; the writer. -/
import Derived.Test.YtgdfhpknhcjipaaCu4
namespace Go.Proofs.Ytgdfhpknhcjipaa.Cu
open Go Go.SX Go.Proofs.Ytgdfhpknhcjipaa.VT
set_option maxRecDepth 100000
set_option linter.unusedVariables false

theorem slB_nil (G : Gh) : SlB G none 0 [] := ⟨rfl, Nat.le_refl _, by decide, fun ad h => by simp at h, fun _ => ⟨rfl, rfl⟩, fun v hv => by simp [byts] at hv⟩
/-- The cursor behind Bytes. -/
def cBytes (bs : List Int) (a : Nat) (e n : Int) : List Int × Nat × Int :=
  if e ≠ 0 then ([], a, e) else if n < 0 then ([], a, 32) else if n > ((bs.length - a : Nat) : Int) then ([], a, 1) else ((bs.drop a).take n.toNat, a + n.toNat, 0)
theorem bytes_fn (G : Gh) (A : Option Addr) (bs : List Int) (c a : Nat) (e n : Int) (hs : SlB G A c bs) (ha : a ≤ bs.length) (hlen : bs.length ≤ 140737488355328) (hn : n ≤ 9223372036854775807) :
    Ct Try.prog 37 [.p 0 0, .v (.int .i64 n)] [curO A bs.length c a e] G fun sv H' G' =>
      (∃ A' c', sv = .v (.slice A' (cBytes bs a e n).1.length c') ∧ SlB G' A' c' (cBytes bs a e n).1) ∧ H' = [curO A bs.length c (cBytes bs a e n).2.1 (cBytes bs a e n).2.2] := by
  refine fn_of follows [] Try.func37 rfl rfl fun E hE => ?_
  repeat' ((fail_if_success with_reducible refine Stop.mk ?_); (conv => whnf); with_reducible first | refine br_t ?_ | refine br_f ?_ | refine br_nn ?_ | refine br_ns ?_ | refine br_not ?_ | refine br_d (fun h => ?_) (fun h => ?_) | refine br_e (fun h => ?_) (fun h => ?_) | refine br_n (fun h => ?_) (fun h => ?_) | refine drw (by kernel_rfl) ?_ | refine chk (by kernel_rfl) ?_ | refine stop ?_)
  all_goals refine Stop.mk ?_
  have hl : (bs.drop a).length = bs.length - a := by simp
  refine call_fn [0, 1, 2] (read_fn2 G A bs c a e 58 (intO n) (slO none 0 0)
    (fun r why y1 y2 G' => cBytes bs a 0 n = ((cBytes bs a 0 n).1, a + r, why) ∧ (why = 0 → a + r ≤ bs.length) ∧ y1 = intO n ∧ ∃ A' c', y2 = slO A' (cBytes bs a 0 n).1.length c' ∧ SlB G' A' c' (cBytes bs a 0 n).1) hs ha ?_ ?_) rfl ⟨rfl, rfl, rfl, trivial⟩ (by decide) ?_
  · rintro r why y1 y2 G' ⟨_, h2, _⟩ h0
    exact h2 h0
  · intro he E fr A' K hs' hK
    refine call_fn [1, 2] (bytes1_fn G A' (c - a) (bs.drop a) n hs' (by omega) hn) rfl ⟨rfl, rfl, trivial⟩ (by decide) ?_
    intro sv H' G' hp hg
    rw [hl] at hp
    split at hp
    · obtain ⟨rfl, rfl, rfl⟩ := hp
      have hc : cBytes bs a 0 n = ([], a, 32) := by unfold cBytes; rw [if_neg (by decide), if_pos (by assumption)]
      exact ⟨by simp, callEnd_cells rfl (hK _ 0 _ _ _ _ ⟨by rw [hc]; try rfl, fun h => by simp at h, rfl, none, 0, by rw [hc]; try rfl, by rw [hc]; exact slB_nil _⟩ hg)⟩
    split at hp
    · obtain ⟨rfl, rfl, rfl⟩ := hp
      have hc : cBytes bs a 0 n = ([], a, 1) := by unfold cBytes; rw [if_neg (by decide), if_neg (by assumption), if_pos (by assumption)]
      exact ⟨by simp, callEnd_cells rfl (hK _ 0 _ _ _ _ ⟨by rw [hc]; try rfl, fun h => by simp at h, rfl, none, 0, by rw [hc]; try rfl, by rw [hc]; exact slB_nil _⟩ hg)⟩
    · obtain ⟨rfl, A2, c2, rfl, hs2⟩ := hp
      have hc : cBytes bs a 0 n = ((bs.drop a).take n.toNat, a + n.toNat, 0) := by unfold cBytes; rw [if_neg (by decide), if_neg (by assumption), if_neg (by assumption)]
      have h1 : ((bs.drop a).take n.toNat).length = n.toNat := by rw [List.length_take, hl, Nat.min_eq_left (by omega)]
      have hnn : n = ((n.toNat : Nat) : Int) := by omega
      refine ⟨by simp, callEnd_cells rfl ?_⟩
      have := hK [1, 2] n.toNat 0 (intO n) (slO A2 n.toNat c2) G' ⟨by rw [hc], fun _ => by omega, rfl, A2, c2, by rw [hc, h1], by rw [hc]; exact hs2⟩ hg
      rw [← hnn] at this
      exact this
  · rintro sv H' G' ⟨rfl, hR⟩ hg
    rcases hR with ⟨he, rfl, rfl⟩ | ⟨rfl, r, why, y1, y2, ⟨h1, h2, rfl, A2, c2, rfl, h3⟩, rfl⟩
    · refine ⟨by simp, ?_⟩
      repeat' ((fail_if_success with_reducible refine Stop.mk ?_); (conv => whnf); with_reducible first | refine br_t ?_ | refine br_f ?_ | refine br_nn ?_ | refine br_ns ?_ | refine br_not ?_ | refine br_d (fun h => ?_) (fun h => ?_) | refine br_e (fun h => ?_) (fun h => ?_) | refine br_n (fun h => ?_) (fun h => ?_) | refine drw (by kernel_rfl) ?_ | refine chk (by kernel_rfl) ?_ | refine stop ?_)
      all_goals refine Stop.mk ?_
      have hc : cBytes bs a e n = ([], a, e) := if_pos he
      refine fin_id hE 1 rfl rfl rfl rfl ⟨⟨none, 0, ?_, ?_⟩, ?_⟩ <;> rw [hc]
      · rfl
      · exact slB_nil _
      · rfl
    · refine ⟨by simp, ?_⟩
      repeat' ((fail_if_success with_reducible refine Stop.mk ?_); (conv => whnf); with_reducible first | refine br_t ?_ | refine br_f ?_ | refine br_nn ?_ | refine br_ns ?_ | refine br_not ?_ | refine br_d (fun h => ?_) (fun h => ?_) | refine br_e (fun h => ?_) (fun h => ?_) | refine br_n (fun h => ?_) (fun h => ?_) | refine drw (by kernel_rfl) ?_ | refine chk (by kernel_rfl) ?_ | refine stop ?_)
      all_goals refine Stop.mk ?_
      refine fin_id hE 1 rfl rfl rfl rfl ⟨⟨A2, c2, rfl, h3⟩, ?_⟩
      show [curO A bs.length c _ _] = _
      rw [h1]
      by_cases hw : why = 0
      · rw [if_pos hw]
      · rw [if_neg hw]
        have h4 := congrArg (fun d => d.2.2) h1
        have h5 := congrArg (fun d => d.2.1) h1
        simp only at h4 h5
        unfold cBytes at h4 h5
        rw [if_neg (by decide)] at h4 h5
        split at h4 <;> rename_i hx
        · rw [if_pos hx] at h5; simp only at h5; rw [← h5]
        · rw [if_neg hx] at h5
          split at h4 <;> rename_i hy
          · rw [if_pos hy] at h5; simp only at h5; rw [← h5]
          · simp only at h4; omega
theorem new_fn (G : Gh) (A : Option Addr) (bs : List Int) (c : Nat) (hs : SlB G A c bs) (hlen : bs.length ≤ 140737488355328) :
    Ct Try.prog 25 [.v (.slice A bs.length c)] [] G fun sv H' G' => ∃ A' c', sv = .p 0 0 ∧ H' = [curO A' bs.length c' 0 0] ∧ SlB G' A' c' bs := by
  refine fn_of follows [] Try.func25 rfl rfl fun E hE => ?_
  repeat' ((fail_if_success with_reducible refine Stop.mk ?_); (conv => whnf); with_reducible first | refine br_t ?_ | refine br_f ?_ | refine br_nn ?_ | refine br_ns ?_ | refine br_not ?_ | refine br_d (fun h => ?_) (fun h => ?_) | refine br_e (fun h => ?_) (fun h => ?_) | refine br_n (fun h => ?_) (fun h => ?_) | refine drw (by kernel_rfl) ?_ | refine chk (by kernel_rfl) ?_ | refine stop ?_)
  all_goals refine Stop.mk ?_
  refine ⟨_, hs, ⟨by show (0 + bs.length) * 1 ≤ _; omega, ?_⟩⟩
  repeat' ((fail_if_success with_reducible refine Stop.mk ?_); (conv => whnf); with_reducible first | refine br_t ?_ | refine br_f ?_ | refine br_nn ?_ | refine br_ns ?_ | refine br_not ?_ | refine br_d (fun h => ?_) (fun h => ?_) | refine br_e (fun h => ?_) (fun h => ?_) | refine br_n (fun h => ?_) (fun h => ?_) | refine drw (by kernel_rfl) ?_ | refine chk (by kernel_rfl) ?_ | refine stop ?_)
  all_goals refine Stop.mk ?_
  refine fin_done 0 rfl (by simpa using byts_one bs) fun A2 c2 G2 hg hsl => fin_mk hE [1] (.p 0 0) [curO A2 bs.length c2 0 0] rfl ⟨?_, trivial⟩ rfl ⟨A2, c2, rfl, rfl, ?_⟩
  · show nth _ _ = _
    simp only [Nat.zero_add]
    rfl
  · have h := hsl
    simp only [Nat.zero_add, List.nil_append] at h
    exact h
theorem errN_fn (G : Gh) :
    Ct Try.prog 27 [.v (.pointer none)] [] G fun sv H' G' => sv = .v (.int .i64 32) ∧ H' = [] ∧ G' = G := by
  refine fn_of follows [] Try.func27 rfl rfl fun E hE => ?_
  repeat' ((fail_if_success with_reducible refine Stop.mk ?_); (conv => whnf); with_reducible first | refine br_t ?_ | refine br_f ?_ | refine br_nn ?_ | refine br_ns ?_ | refine br_not ?_ | refine br_d (fun h => ?_) (fun h => ?_) | refine br_e (fun h => ?_) (fun h => ?_) | refine br_n (fun h => ?_) (fun h => ?_) | refine drw (by kernel_rfl) ?_ | refine chk (by kernel_rfl) ?_ | refine stop ?_)
  all_goals refine Stop.mk ?_
  exact fin_all ⟨rfl, rfl, rfl⟩
theorem readN_fn (G : Gh) (F : FuncId) (caps : List SV) (H : List Ob) :
    Ct Try.prog 54 [.v (.pointer none), .f (.func F) [] caps] H G fun sv H' G' => sv = .tup [] ∧ H' = H ∧ G' = G := by
  refine fn_of follows [(1, (.cons 0 [] (.cons 1 [] (.cons 2 [] (.cons 3 [] (.cons 4 [] (.cons 5 [] (.cons 6 [] (.cons 7 [] (.cons 8 [] (.cons 9 [] (.cons 10 [4, 8] (.cons 11 [] (.cons 12 [] (.cons 13 [] (.cons 14 [] (.cons 15 [] .nil)))))))))))))))))] Try.func54 rfl rfl fun E hE => ?_
  repeat' ((fail_if_success with_reducible refine Stop.mk ?_); (conv => whnf); with_reducible first | refine br_t ?_ | refine br_f ?_ | refine br_nn ?_ | refine br_ns ?_ | refine br_not ?_ | refine br_d (fun h => ?_) (fun h => ?_) | refine br_e (fun h => ?_) (fun h => ?_) | refine br_n (fun h => ?_) (fun h => ?_) | refine drw (by kernel_rfl) ?_ | refine chk (by kernel_rfl) ?_ | refine stop ?_)
  all_goals refine Stop.mk ?_
  exact fin_all ⟨rfl, rfl, rfl⟩
theorem byteN_fn (G : Gh) :
    Ct Try.prog 34 [.v (.pointer none)] [] G fun sv H' G' => sv = .v (.int .u8 0) ∧ H' = [] ∧ G' = G := by
  refine fn_of follows [] Try.func34 rfl rfl fun E hE => ?_
  repeat' ((fail_if_success with_reducible refine Stop.mk ?_); (conv => whnf); with_reducible first | refine br_t ?_ | refine br_f ?_ | refine br_nn ?_ | refine br_ns ?_ | refine br_not ?_ | refine br_d (fun h => ?_) (fun h => ?_) | refine br_e (fun h => ?_) (fun h => ?_) | refine br_n (fun h => ?_) (fun h => ?_) | refine drw (by kernel_rfl) ?_ | refine chk (by kernel_rfl) ?_ | refine stop ?_)
  all_goals refine Stop.mk ?_
  refine call_fn [0] (readN_fn G 55 [.p 0 0] [u8O 0]) rfl ⟨rfl, trivial⟩ (by decide) ?_
  rintro sv H' G' ⟨rfl, rfl, rfl⟩ hg
  refine ⟨by simp, ?_⟩
  repeat' ((fail_if_success with_reducible refine Stop.mk ?_); (conv => whnf); with_reducible first | refine br_t ?_ | refine br_f ?_ | refine br_nn ?_ | refine br_ns ?_ | refine br_not ?_ | refine br_d (fun h => ?_) (fun h => ?_) | refine br_e (fun h => ?_) (fun h => ?_) | refine br_n (fun h => ?_) (fun h => ?_) | refine drw (by kernel_rfl) ?_ | refine chk (by kernel_rfl) ?_ | refine stop ?_)
  all_goals refine Stop.mk ?_
  exact fin_id hE 0 rfl rfl rfl rfl ⟨rfl, rfl, rfl⟩
end Go.Proofs.Ytgdfhpknhcjipaa.Cu
