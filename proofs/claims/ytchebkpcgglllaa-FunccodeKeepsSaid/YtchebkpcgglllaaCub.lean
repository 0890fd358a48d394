/- Cub: Cu5, Cu6, Cu7, CuP, Vd in one text. -/
import Derived.Test.YtchebkpcgglllaaCua
import Derived.Test.YtchebkpcgglllaaSXg
namespace Go.Proofs.Ytchebkpcgglllaa.Cu
open Go Go.SX Go.Proofs.Ytchebkpcgglllaa.VT
set_option maxRecDepth 100000
set_option linter.unusedVariables false

theorem slB_nil (G : Gh) : SlB G none 0 [] := ⟨rfl, Nat.le_refl _, by decide, fun ad h => by simp at h, fun _ => ⟨rfl, rfl⟩, fun v hv => by simp [byts] at hv⟩
/-- The cursor behind Bytes. -/
def cBytes (bs : List Int) (a : Nat) (e n : Int) : List Int × Nat × Int :=
  if e ≠ 0 then ([], a, e) else if n < 0 then ([], a, 32) else if n > ((bs.length - a : Nat) : Int) then ([], a, 1) else ((bs.drop a).take n.toNat, a + n.toNat, 0)
theorem bytes_fn (G : Gh) (A : Option Addr) (bs : List Int) (c a : Nat) (e n : Int) (hs : SlB G A c bs) (ha : a ≤ bs.length) (hlen : bs.length ≤ 140737488355328) (hn : n ≤ 9223372036854775807) :
    Ct Try.prog 29 [.p 0 0, .v (.int .i64 n)] [curO A bs.length c a e] G fun sv H' G' =>
      (∃ A' c', sv = .v (.slice A' (cBytes bs a e n).1.length c') ∧ SlB G' A' c' (cBytes bs a e n).1) ∧ H' = [curO A bs.length c (cBytes bs a e n).2.1 (cBytes bs a e n).2.2] := by
  refine fn_of follows [] Try.func29 rfl rfl fun E hE => ?_
  repeat' ((fail_if_success with_reducible refine Stop.mk ?_); (conv => whnf); with_reducible first | refine br_t ?_ | refine br_f ?_ | refine br_nn ?_ | refine br_ns ?_ | refine br_not ?_ | refine br_d (fun h => ?_) (fun h => ?_) | refine br_e (fun h => ?_) (fun h => ?_) | refine br_n (fun h => ?_) (fun h => ?_) | refine drw (by kernel_rfl) ?_ | refine chk (by kernel_rfl) ?_ | refine stop ?_)
  all_goals refine Stop.mk ?_
  have hl : (bs.drop a).length = bs.length - a := by simp
  refine call_fn [0, 1, 2] (read_fn2 G A bs c a e 46 (intO n) (slO none 0 0)
    (fun r why y1 y2 G' => cBytes bs a 0 n = ((cBytes bs a 0 n).1, a + r, why) ∧ (why = 0 → a + r ≤ bs.length) ∧ y1 = intO n ∧ ∃ A' c', y2 = slO A' (cBytes bs a 0 n).1.length c' ∧ SlB G' A' c' (cBytes bs a 0 n).1) hs ha ?_ ?_) rfl ⟨rfl, rfl, rfl, trivial⟩ (by decide) ?_
  · rintro r why y1 y2 G' ⟨_, h2, _⟩ h0
    exact h2 h0
  · intro he E fr A' K hs' hK
    refine call_fn [1, 2] (bytes1_fn G A' (c - a) (bs.drop a) n hs' (by omega) hn) rfl ⟨rfl, rfl, trivial⟩ (by decide) ?_
    intro sv H' G' hp hg
    rw [hl] at hp
    split at hp
    · obtain ⟨rfl, rfl, rfl⟩ := hp
      have hc : cBytes bs a 0 n = ([], a, 32) := by unfold cBytes; rw [if_neg (by decide), if_pos (by assumption)]
      exact ⟨by simp, callEnd_cells rfl (hK _ 0 _ _ _ _ ⟨by rw [hc]; try rfl, fun h => by simp at h, rfl, none, 0, by rw [hc]; try rfl, by rw [hc]; exact slB_nil _⟩ hg)⟩
    split at hp
    · obtain ⟨rfl, rfl, rfl⟩ := hp
      have hc : cBytes bs a 0 n = ([], a, 1) := by unfold cBytes; rw [if_neg (by decide), if_neg (by assumption), if_pos (by assumption)]
      exact ⟨by simp, callEnd_cells rfl (hK _ 0 _ _ _ _ ⟨by rw [hc]; try rfl, fun h => by simp at h, rfl, none, 0, by rw [hc]; try rfl, by rw [hc]; exact slB_nil _⟩ hg)⟩
    · obtain ⟨rfl, A2, c2, rfl, hs2⟩ := hp
      have hc : cBytes bs a 0 n = ((bs.drop a).take n.toNat, a + n.toNat, 0) := by unfold cBytes; rw [if_neg (by decide), if_neg (by assumption), if_neg (by assumption)]
      have h1 : ((bs.drop a).take n.toNat).length = n.toNat := by rw [List.length_take, hl, Nat.min_eq_left (by omega)]
      have hnn : n = ((n.toNat : Nat) : Int) := by omega
      refine ⟨by simp, callEnd_cells rfl ?_⟩
      have := hK [1, 2] n.toNat 0 (intO n) (slO A2 n.toNat c2) G' ⟨by rw [hc], fun _ => by omega, rfl, A2, c2, by rw [hc, h1], by rw [hc]; exact hs2⟩ hg
      rw [← hnn] at this
      exact this
  · rintro sv H' G' ⟨rfl, hR⟩ hg
    rcases hR with ⟨he, rfl, rfl⟩ | ⟨rfl, r, why, y1, y2, ⟨h1, h2, rfl, A2, c2, rfl, h3⟩, rfl⟩
    · refine ⟨by simp, ?_⟩
      repeat' ((fail_if_success with_reducible refine Stop.mk ?_); (conv => whnf); with_reducible first | refine br_t ?_ | refine br_f ?_ | refine br_nn ?_ | refine br_ns ?_ | refine br_not ?_ | refine br_d (fun h => ?_) (fun h => ?_) | refine br_e (fun h => ?_) (fun h => ?_) | refine br_n (fun h => ?_) (fun h => ?_) | refine drw (by kernel_rfl) ?_ | refine chk (by kernel_rfl) ?_ | refine stop ?_)
      all_goals refine Stop.mk ?_
      have hc : cBytes bs a e n = ([], a, e) := if_pos he
      refine fin_id hE 1 rfl rfl rfl rfl ⟨⟨none, 0, ?_, ?_⟩, ?_⟩ <;> rw [hc]
      · rfl
      · exact slB_nil _
      · rfl
    · refine ⟨by simp, ?_⟩
      repeat' ((fail_if_success with_reducible refine Stop.mk ?_); (conv => whnf); with_reducible first | refine br_t ?_ | refine br_f ?_ | refine br_nn ?_ | refine br_ns ?_ | refine br_not ?_ | refine br_d (fun h => ?_) (fun h => ?_) | refine br_e (fun h => ?_) (fun h => ?_) | refine br_n (fun h => ?_) (fun h => ?_) | refine drw (by kernel_rfl) ?_ | refine chk (by kernel_rfl) ?_ | refine stop ?_)
      all_goals refine Stop.mk ?_
      refine fin_id hE 1 rfl rfl rfl rfl ⟨⟨A2, c2, rfl, h3⟩, ?_⟩
      show [curO A bs.length c _ _] = _
      rw [h1]
      by_cases hw : why = 0
      · rw [if_pos hw]
      · rw [if_neg hw]
        have h4 := congrArg (fun d => d.2.2) h1
        have h5 := congrArg (fun d => d.2.1) h1
        simp only at h4 h5
        unfold cBytes at h4 h5
        rw [if_neg (by decide)] at h4 h5
        split at h4 <;> rename_i hx
        · rw [if_pos hx] at h5; simp only at h5; rw [← h5]
        · rw [if_neg hx] at h5
          split at h4 <;> rename_i hy
          · rw [if_pos hy] at h5; simp only at h5; rw [← h5]
          · simp only at h4; omega
theorem new_fn (G : Gh) (A : Option Addr) (bs : List Int) (c : Nat) (hs : SlB G A c bs) (hlen : bs.length ≤ 140737488355328) :
    Ct Try.prog 23 [.v (.slice A bs.length c)] [] G fun sv H' G' => ∃ A' c', sv = .p 0 0 ∧ H' = [curO A' bs.length c' 0 0] ∧ SlB G' A' c' bs := by
  refine fn_of follows [] Try.func23 rfl rfl fun E hE => ?_
  repeat' ((fail_if_success with_reducible refine Stop.mk ?_); (conv => whnf); with_reducible first | refine br_t ?_ | refine br_f ?_ | refine br_nn ?_ | refine br_ns ?_ | refine br_not ?_ | refine br_d (fun h => ?_) (fun h => ?_) | refine br_e (fun h => ?_) (fun h => ?_) | refine br_n (fun h => ?_) (fun h => ?_) | refine drw (by kernel_rfl) ?_ | refine chk (by kernel_rfl) ?_ | refine stop ?_)
  all_goals refine Stop.mk ?_
  refine ⟨_, hs, ⟨by show (0 + bs.length) * 1 ≤ _; omega, ?_⟩⟩
  repeat' ((fail_if_success with_reducible refine Stop.mk ?_); (conv => whnf); with_reducible first | refine br_t ?_ | refine br_f ?_ | refine br_nn ?_ | refine br_ns ?_ | refine br_not ?_ | refine br_d (fun h => ?_) (fun h => ?_) | refine br_e (fun h => ?_) (fun h => ?_) | refine br_n (fun h => ?_) (fun h => ?_) | refine drw (by kernel_rfl) ?_ | refine chk (by kernel_rfl) ?_ | refine stop ?_)
  all_goals refine Stop.mk ?_
  refine fin_done 0 rfl (by simpa using byts_one bs) fun A2 c2 G2 hg hsl => fin_mk hE [1] (.p 0 0) [curO A2 bs.length c2 0 0] rfl ⟨?_, trivial⟩ rfl ⟨A2, c2, rfl, rfl, ?_⟩
  · show nth _ _ = _
    simp only [Nat.zero_add]
    rfl
  · have h := hsl
    simp only [Nat.zero_add, List.nil_append] at h
    exact h
theorem errN_fn (G : Gh) :
    Ct Try.prog 25 [.v (.pointer none)] [] G fun sv H' G' => sv = .v (.int .i64 32) ∧ H' = [] ∧ G' = G := by
  refine fn_of follows [] Try.func25 rfl rfl fun E hE => ?_
  repeat' ((fail_if_success with_reducible refine Stop.mk ?_); (conv => whnf); with_reducible first | refine br_t ?_ | refine br_f ?_ | refine br_nn ?_ | refine br_ns ?_ | refine br_not ?_ | refine br_d (fun h => ?_) (fun h => ?_) | refine br_e (fun h => ?_) (fun h => ?_) | refine br_n (fun h => ?_) (fun h => ?_) | refine drw (by kernel_rfl) ?_ | refine chk (by kernel_rfl) ?_ | refine stop ?_)
  all_goals refine Stop.mk ?_
  exact fin_all ⟨rfl, rfl, rfl⟩
theorem readN_fn (G : Gh) (F : FuncId) (caps : List SV) (H : List Ob) :
    Ct Try.prog 42 [.v (.pointer none), .f (.func F) [] caps] H G fun sv H' G' => sv = .tup [] ∧ H' = H ∧ G' = G := by
  refine fn_of follows [(1, (.cons 0 [] (.cons 1 [] (.cons 2 [] (.cons 3 [] (.cons 4 [] (.cons 5 [] (.cons 6 [] (.cons 7 [] (.cons 8 [] (.cons 9 [] (.cons 10 [4, 8] (.cons 11 [] (.cons 12 [] (.cons 13 [] (.cons 14 [] (.cons 15 [] .nil)))))))))))))))))] Try.func42 rfl rfl fun E hE => ?_
  repeat' ((fail_if_success with_reducible refine Stop.mk ?_); (conv => whnf); with_reducible first | refine br_t ?_ | refine br_f ?_ | refine br_nn ?_ | refine br_ns ?_ | refine br_not ?_ | refine br_d (fun h => ?_) (fun h => ?_) | refine br_e (fun h => ?_) (fun h => ?_) | refine br_n (fun h => ?_) (fun h => ?_) | refine drw (by kernel_rfl) ?_ | refine chk (by kernel_rfl) ?_ | refine stop ?_)
  all_goals refine Stop.mk ?_
  exact fin_all ⟨rfl, rfl, rfl⟩
theorem byteN_fn (G : Gh) :
    Ct Try.prog 24 [.v (.pointer none)] [] G fun sv H' G' => sv = .v (.int .u8 0) ∧ H' = [] ∧ G' = G := by
  refine fn_of follows [] Try.func24 rfl rfl fun E hE => ?_
  repeat' ((fail_if_success with_reducible refine Stop.mk ?_); (conv => whnf); with_reducible first | refine br_t ?_ | refine br_f ?_ | refine br_nn ?_ | refine br_ns ?_ | refine br_not ?_ | refine br_d (fun h => ?_) (fun h => ?_) | refine br_e (fun h => ?_) (fun h => ?_) | refine br_n (fun h => ?_) (fun h => ?_) | refine drw (by kernel_rfl) ?_ | refine chk (by kernel_rfl) ?_ | refine stop ?_)
  all_goals refine Stop.mk ?_
  refine call_fn [0] (readN_fn G 43 [.p 0 0] [u8O 0]) rfl ⟨rfl, trivial⟩ (by decide) ?_
  rintro sv H' G' ⟨rfl, rfl, rfl⟩ hg
  refine ⟨by simp, ?_⟩
  repeat' ((fail_if_success with_reducible refine Stop.mk ?_); (conv => whnf); with_reducible first | refine br_t ?_ | refine br_f ?_ | refine br_nn ?_ | refine br_ns ?_ | refine br_not ?_ | refine br_d (fun h => ?_) (fun h => ?_) | refine br_e (fun h => ?_) (fun h => ?_) | refine br_n (fun h => ?_) (fun h => ?_) | refine drw (by kernel_rfl) ?_ | refine chk (by kernel_rfl) ?_ | refine stop ?_)
  all_goals refine Stop.mk ?_
  exact fin_id hE 0 rfl rfl rfl rfl ⟨rfl, rfl, rfl⟩
end Go.Proofs.Ytchebkpcgglllaa.Cu

namespace Go.Proofs.Ytchebkpcgglllaa.Cu
open Go Go.SX Go.Proofs.Ytchebkpcgglllaa.VT
set_option maxRecDepth 100000
set_option linter.unusedVariables false

/-- A writer that has written these bytes. -/
def wrH (xs : List Int) : List Ob := [.cells 42 [.s 1], .row 5 1 xs.length (byts xs)]
def wr0 : List Ob := [.cells 42 [.v (.slice none 0 0)]]
theorem wbytes_fn (G : Gh) (A : Option Addr) (c : Nat) (bs xs : List Int) (hs : SlB G A c bs) (hlen : xs.length + bs.length ≤ 140737488355328) :
    Ct Try.prog 22 [.p 0 0, .v (.slice A bs.length c)] (wrH xs) G fun sv H' G' => sv = .tup [] ∧ H' = wrH (xs ++ bs) ∧ G' = G := by
  refine fn_of follows [] Try.func22 rfl rfl fun E hE => ?_
  repeat' ((fail_if_success with_reducible refine Stop.mk ?_); (conv => whnf); with_reducible first | refine br_t ?_ | refine br_f ?_ | refine br_nn ?_ | refine br_ns ?_ | refine br_not ?_ | refine br_d (fun h => ?_) (fun h => ?_) | refine br_e (fun h => ?_) (fun h => ?_) | refine br_n (fun h => ?_) (fun h => ?_) | refine drw (by kernel_rfl) ?_ | refine chk (by kernel_rfl) ?_ | refine stop ?_)
  all_goals refine Stop.mk ?_
  refine ⟨_, hs, ⟨by show (xs.length + bs.length) * 1 ≤ _; omega, ?_⟩⟩
  repeat' ((fail_if_success with_reducible refine Stop.mk ?_); (conv => whnf); with_reducible first | refine br_t ?_ | refine br_f ?_ | refine br_nn ?_ | refine br_ns ?_ | refine br_not ?_ | refine br_d (fun h => ?_) (fun h => ?_) | refine br_e (fun h => ?_) (fun h => ?_) | refine br_n (fun h => ?_) (fun h => ?_) | refine drw (by kernel_rfl) ?_ | refine chk (by kernel_rfl) ?_ | refine stop ?_)
  all_goals refine Stop.mk ?_
  refine fin_all ⟨rfl, ?_, rfl⟩
  unfold wrH
  rw [List.length_append, show byts (xs ++ bs) = byts xs ++ byts bs by simp [byts]]
  rfl
theorem wbytes0_fn (G : Gh) (A : Option Addr) (c : Nat) (bs : List Int) (hs : SlB G A c bs) (hlen : bs.length ≤ 140737488355328) :
    Ct Try.prog 22 [.p 0 0, .v (.slice A bs.length c)] wr0 G fun sv H' G' => sv = .tup [] ∧ H' = wrH bs ∧ G' = G := by
  refine fn_of follows [] Try.func22 rfl rfl fun E hE => ?_
  repeat' ((fail_if_success with_reducible refine Stop.mk ?_); (conv => whnf); with_reducible first | refine br_t ?_ | refine br_f ?_ | refine br_nn ?_ | refine br_ns ?_ | refine br_not ?_ | refine br_d (fun h => ?_) (fun h => ?_) | refine br_e (fun h => ?_) (fun h => ?_) | refine br_n (fun h => ?_) (fun h => ?_) | refine drw (by kernel_rfl) ?_ | refine chk (by kernel_rfl) ?_ | refine stop ?_)
  all_goals refine Stop.mk ?_
  refine ⟨_, hs, by show bs.length * 1 ≤ _; omega, ?_⟩
  repeat' ((fail_if_success with_reducible refine Stop.mk ?_); (conv => whnf); with_reducible first | refine br_t ?_ | refine br_f ?_ | refine br_nn ?_ | refine br_ns ?_ | refine br_not ?_ | refine br_d (fun h => ?_) (fun h => ?_) | refine br_e (fun h => ?_) (fun h => ?_) | refine br_n (fun h => ?_) (fun h => ?_) | refine drw (by kernel_rfl) ?_ | refine chk (by kernel_rfl) ?_ | refine stop ?_)
  all_goals refine Stop.mk ?_
  exact fin_all ⟨rfl, rfl, rfl⟩
theorem putB_len (x : Nat) : (putB x).length ≤ 10 := vput_len_le 9 x
theorem wuint_fn (G : Gh) (x : Nat) (xs : List Int) (hx : x < 18446744073709551616) (hlen : xs.length ≤ 1000000) :
    Ct Try.prog 21 [.p 0 0, .v (.int .u64 x)] (wrH xs) G fun sv H' G' => sv = .tup [] ∧ H' = wrH (xs ++ putB x) := by
  refine fn_of follows [] Try.func21 rfl rfl fun E hE => ?_
  have hp := putB_len x
  repeat' ((fail_if_success with_reducible refine Stop.mk ?_); (conv => whnf); with_reducible first | refine br_t ?_ | refine br_f ?_ | refine br_nn ?_ | refine br_ns ?_ | refine br_not ?_ | refine br_d (fun h => ?_) (fun h => ?_) | refine br_e (fun h => ?_) (fun h => ?_) | refine br_n (fun h => ?_) (fun h => ?_) | refine drw (by kernel_rfl) ?_ | refine chk (by kernel_rfl) ?_ | refine stop ?_)
  all_goals refine Stop.mk ?_
  refine call_fn [] (put_fn G x hx) rfl trivial (by decide) ?_
  rintro sv H' G' ⟨⟨A, c, rfl, hs⟩, rfl⟩ _
  refine ⟨Nat.zero_le _, ?_⟩
  repeat' ((fail_if_success with_reducible refine Stop.mk ?_); (conv => whnf); with_reducible first | refine br_t ?_ | refine br_f ?_ | refine br_nn ?_ | refine br_ns ?_ | refine br_not ?_ | refine br_d (fun h => ?_) (fun h => ?_) | refine br_e (fun h => ?_) (fun h => ?_) | refine br_n (fun h => ?_) (fun h => ?_) | refine drw (by kernel_rfl) ?_ | refine chk (by kernel_rfl) ?_ | refine stop ?_)
  all_goals refine Stop.mk ?_
  refine call_fn [0, 1] (wbytes_fn _ A c (putB x) xs hs (by omega)) rfl ⟨rfl, rfl, trivial⟩ (by decide) ?_
  rintro sv H' G' ⟨rfl, rfl, rfl⟩ hg
  refine ⟨by simp [wrH], ?_⟩
  repeat' ((fail_if_success with_reducible refine Stop.mk ?_); (conv => whnf); with_reducible first | refine br_t ?_ | refine br_f ?_ | refine br_nn ?_ | refine br_ns ?_ | refine br_not ?_ | refine br_d (fun h => ?_) (fun h => ?_) | refine br_e (fun h => ?_) (fun h => ?_) | refine br_n (fun h => ?_) (fun h => ?_) | refine drw (by kernel_rfl) ?_ | refine chk (by kernel_rfl) ?_ | refine stop ?_)
  all_goals refine Stop.mk ?_
  exact fin_all ⟨rfl, rfl⟩
theorem wuint0_fn (G : Gh) (x : Nat) (hx : x < 18446744073709551616) :
    Ct Try.prog 21 [.p 0 0, .v (.int .u64 x)] wr0 G fun sv H' G' => sv = .tup [] ∧ H' = wrH (putB x) := by
  refine fn_of follows [] Try.func21 rfl rfl fun E hE => ?_
  have hp := putB_len x
  repeat' ((fail_if_success with_reducible refine Stop.mk ?_); (conv => whnf); with_reducible first | refine br_t ?_ | refine br_f ?_ | refine br_nn ?_ | refine br_ns ?_ | refine br_not ?_ | refine br_d (fun h => ?_) (fun h => ?_) | refine br_e (fun h => ?_) (fun h => ?_) | refine br_n (fun h => ?_) (fun h => ?_) | refine drw (by kernel_rfl) ?_ | refine chk (by kernel_rfl) ?_ | refine stop ?_)
  all_goals refine Stop.mk ?_
  refine call_fn [] (put_fn G x hx) rfl trivial (by decide) ?_
  rintro sv H' G' ⟨⟨A, c, rfl, hs⟩, rfl⟩ _
  refine ⟨Nat.zero_le _, ?_⟩
  repeat' ((fail_if_success with_reducible refine Stop.mk ?_); (conv => whnf); with_reducible first | refine br_t ?_ | refine br_f ?_ | refine br_nn ?_ | refine br_ns ?_ | refine br_not ?_ | refine br_d (fun h => ?_) (fun h => ?_) | refine br_e (fun h => ?_) (fun h => ?_) | refine br_n (fun h => ?_) (fun h => ?_) | refine drw (by kernel_rfl) ?_ | refine chk (by kernel_rfl) ?_ | refine stop ?_)
  all_goals refine Stop.mk ?_
  refine call_fn [0] (wbytes0_fn _ A c (putB x) hs (by omega)) rfl ⟨rfl, trivial⟩ (by decide) ?_
  rintro sv H' G' ⟨rfl, rfl, rfl⟩ hg
  refine ⟨by simp [wrH], ?_⟩
  repeat' ((fail_if_success with_reducible refine Stop.mk ?_); (conv => whnf); with_reducible first | refine br_t ?_ | refine br_f ?_ | refine br_nn ?_ | refine br_ns ?_ | refine br_not ?_ | refine br_d (fun h => ?_) (fun h => ?_) | refine br_e (fun h => ?_) (fun h => ?_) | refine br_n (fun h => ?_) (fun h => ?_) | refine drw (by kernel_rfl) ?_ | refine chk (by kernel_rfl) ?_ | refine stop ?_)
  all_goals refine Stop.mk ?_
  exact fin_all ⟨rfl, rfl⟩
theorem wbyte_fn (G : Gh) (x : Int) (xs : List Int) (hlen : xs.length ≤ 1000000) :
    Ct Try.prog 20 [.p 0 0, .v (.int .u8 x)] (wrH xs) G fun sv H' G' => sv = .tup [] ∧ H' = wrH (xs ++ [x]) := by
  refine fn_of follows [] Try.func20 rfl rfl fun E hE => ?_
  repeat' ((fail_if_success with_reducible refine Stop.mk ?_); (conv => whnf); with_reducible first | refine br_t ?_ | refine br_f ?_ | refine br_nn ?_ | refine br_ns ?_ | refine br_not ?_ | refine br_d (fun h => ?_) (fun h => ?_) | refine br_e (fun h => ?_) (fun h => ?_) | refine br_n (fun h => ?_) (fun h => ?_) | refine drw (by kernel_rfl) ?_ | refine chk (by kernel_rfl) ?_ | refine stop ?_)
  all_goals refine Stop.mk ?_
  refine call_done 2 rfl (by simp [Value.oneCell']) (fun A c G2 hg hs => call_fn [0, 1] (wbytes_fn G2 A c [x] xs hs (by simp; omega)) rfl ⟨rfl, rfl, trivial⟩ (by decide) ?_) (wbytes_fn G none 0 [] [] (slB_nil _) (by simp)).enters
  rintro sv H' G' ⟨rfl, rfl, rfl⟩ hg
  refine ⟨by simp [wrH], ?_⟩
  repeat' ((fail_if_success with_reducible refine Stop.mk ?_); (conv => whnf); with_reducible first | refine br_t ?_ | refine br_f ?_ | refine br_nn ?_ | refine br_ns ?_ | refine br_not ?_ | refine br_d (fun h => ?_) (fun h => ?_) | refine br_e (fun h => ?_) (fun h => ?_) | refine br_n (fun h => ?_) (fun h => ?_) | refine drw (by kernel_rfl) ?_ | refine chk (by kernel_rfl) ?_ | refine stop ?_)
  all_goals refine Stop.mk ?_
  exact fin_id hE 2 rfl rfl rfl rfl ⟨rfl, rfl⟩
theorem wint_fn (G : Gh) (x : Int) (xs : List Int) (h0 : -9223372036854775808 ≤ x) (h1 : x ≤ 9223372036854775807) (hlen : xs.length ≤ 1000000) :
    Ct Try.prog 69 [.p 0 0, .v (.int .i64 x)] (wrH xs) G fun sv H' G' => sv = .tup [] ∧ H' = wrH (xs ++ putB (zig x).toNat) := by
  refine fn_of follows [] Try.func69 rfl rfl fun E hE => ?_
  have hz := zig_range x h0 h1
  repeat' ((fail_if_success with_reducible refine Stop.mk ?_); (conv => whnf); with_reducible first | refine br_t ?_ | refine br_f ?_ | refine br_nn ?_ | refine br_ns ?_ | refine br_not ?_ | refine br_d (fun h => ?_) (fun h => ?_) | refine br_e (fun h => ?_) (fun h => ?_) | refine br_n (fun h => ?_) (fun h => ?_) | refine drw (by kernel_rfl) ?_ | refine chk (by kernel_rfl) ?_ | refine stop ?_)
  all_goals refine Stop.mk ?_
  refine call_fn [] (zigzag_fn G x h0 h1) rfl trivial (by decide) ?_
  rintro sv H' G' ⟨rfl, rfl, rfl⟩ _
  refine ⟨Nat.zero_le _, ?_⟩
  rw [show zig x = (((zig x).toNat : Nat) : Int) by omega]
  repeat' ((fail_if_success with_reducible refine Stop.mk ?_); (conv => whnf); with_reducible first | refine br_t ?_ | refine br_f ?_ | refine br_nn ?_ | refine br_ns ?_ | refine br_not ?_ | refine br_d (fun h => ?_) (fun h => ?_) | refine br_e (fun h => ?_) (fun h => ?_) | refine br_n (fun h => ?_) (fun h => ?_) | refine drw (by kernel_rfl) ?_ | refine chk (by kernel_rfl) ?_ | refine stop ?_)
  all_goals refine Stop.mk ?_
  refine call_fn [0, 1] (wuint_fn _ (zig x).toNat xs (by omega) hlen) rfl ⟨rfl, rfl, trivial⟩ (by decide) ?_
  rintro sv H' G' ⟨rfl, rfl⟩ hg
  refine ⟨by simp [wrH], ?_⟩
  repeat' ((fail_if_success with_reducible refine Stop.mk ?_); (conv => whnf); with_reducible first | refine br_t ?_ | refine br_f ?_ | refine br_nn ?_ | refine br_ns ?_ | refine br_not ?_ | refine br_d (fun h => ?_) (fun h => ?_) | refine br_e (fun h => ?_) (fun h => ?_) | refine br_n (fun h => ?_) (fun h => ?_) | refine drw (by kernel_rfl) ?_ | refine chk (by kernel_rfl) ?_ | refine stop ?_)
  all_goals refine Stop.mk ?_
  exact fin_all ⟨rfl, by rw [Int.toNat_natCast]; try rfl⟩
theorem wint0_fn (G : Gh) (x : Int) (h0 : -9223372036854775808 ≤ x) (h1 : x ≤ 9223372036854775807) :
    Ct Try.prog 69 [.p 0 0, .v (.int .i64 x)] wr0 G fun sv H' G' => sv = .tup [] ∧ H' = wrH (putB (zig x).toNat) := by
  refine fn_of follows [] Try.func69 rfl rfl fun E hE => ?_
  have hz := zig_range x h0 h1
  repeat' ((fail_if_success with_reducible refine Stop.mk ?_); (conv => whnf); with_reducible first | refine br_t ?_ | refine br_f ?_ | refine br_nn ?_ | refine br_ns ?_ | refine br_not ?_ | refine br_d (fun h => ?_) (fun h => ?_) | refine br_e (fun h => ?_) (fun h => ?_) | refine br_n (fun h => ?_) (fun h => ?_) | refine drw (by kernel_rfl) ?_ | refine chk (by kernel_rfl) ?_ | refine stop ?_)
  all_goals refine Stop.mk ?_
  refine call_fn [] (zigzag_fn G x h0 h1) rfl trivial (by decide) ?_
  rintro sv H' G' ⟨rfl, rfl, rfl⟩ _
  refine ⟨Nat.zero_le _, ?_⟩
  rw [show zig x = (((zig x).toNat : Nat) : Int) by omega]
  repeat' ((fail_if_success with_reducible refine Stop.mk ?_); (conv => whnf); with_reducible first | refine br_t ?_ | refine br_f ?_ | refine br_nn ?_ | refine br_ns ?_ | refine br_not ?_ | refine br_d (fun h => ?_) (fun h => ?_) | refine br_e (fun h => ?_) (fun h => ?_) | refine br_n (fun h => ?_) (fun h => ?_) | refine drw (by kernel_rfl) ?_ | refine chk (by kernel_rfl) ?_ | refine stop ?_)
  all_goals refine Stop.mk ?_
  refine call_fn [0] (wuint0_fn _ (zig x).toNat (by omega)) rfl ⟨rfl, trivial⟩ (by decide) ?_
  rintro sv H' G' ⟨rfl, rfl⟩ hg
  refine ⟨by simp [wrH], ?_⟩
  repeat' ((fail_if_success with_reducible refine Stop.mk ?_); (conv => whnf); with_reducible first | refine br_t ?_ | refine br_f ?_ | refine br_nn ?_ | refine br_ns ?_ | refine br_not ?_ | refine br_d (fun h => ?_) (fun h => ?_) | refine br_e (fun h => ?_) (fun h => ?_) | refine br_n (fun h => ?_) (fun h => ?_) | refine drw (by kernel_rfl) ?_ | refine chk (by kernel_rfl) ?_ | refine stop ?_)
  all_goals refine Stop.mk ?_
  exact fin_all ⟨rfl, by rw [Int.toNat_natCast]; try rfl⟩
/-- Out, the result a slice of its own. -/
theorem wout_fn (G : Gh) (xs : List Int) (hlen : xs.length ≤ 100000000) :
    Ct Try.prog 17 [.p 0 0] (wrH xs) G fun sv H' G' => sv = .s 2 ∧ H' = wrH xs ++ [.row 5 1 xs.length (byts xs)] ∧ G' = G := by
  refine fn_of follows [] Try.func17 rfl rfl fun E hE => ?_
  repeat' ((fail_if_success with_reducible refine Stop.mk ?_); (conv => whnf); with_reducible first | refine br_t ?_ | refine br_f ?_ | refine br_nn ?_ | refine br_ns ?_ | refine br_not ?_ | refine br_d (fun h => ?_) (fun h => ?_) | refine br_e (fun h => ?_) (fun h => ?_) | refine br_n (fun h => ?_) (fun h => ?_) | refine drw (by kernel_rfl) ?_ | refine chk (by kernel_rfl) ?_ | refine stop ?_)
  all_goals refine Stop.mk ?_
  refine ⟨byts_one _, by show (0 + xs.length) * 1 ≤ _; omega, ?_⟩
  repeat' ((fail_if_success with_reducible refine Stop.mk ?_); (conv => whnf); with_reducible first | refine br_t ?_ | refine br_f ?_ | refine br_nn ?_ | refine br_ns ?_ | refine br_not ?_ | refine br_d (fun h => ?_) (fun h => ?_) | refine br_e (fun h => ?_) (fun h => ?_) | refine br_n (fun h => ?_) (fun h => ?_) | refine drw (by kernel_rfl) ?_ | refine chk (by kernel_rfl) ?_ | refine stop ?_)
  all_goals refine Stop.mk ?_
  refine fin_all ⟨rfl, ?_, rfl⟩
  simp only [Nat.zero_add]
  rfl
/-- The reference's comparison. -/
theorem getD_eq {l m : List Int} (hl : l.length = m.length) (h : ∀ i, i < l.length → l.getD i 0 = m.getD i 0) : l = m := by
  refine List.ext_getElem hl fun i h1 h2 => ?_
  have := h i h1
  simpa [List.getD_eq_getElem?_getD, List.getElem?_eq_getElem h1, List.getElem?_eq_getElem h2] using this
theorem same_fn (G : Gh) (A B : Option Addr) (c d : Nat) (xs ys : List Int) (hs : SlB G A c xs) (ht : SlB G B d ys) :
    Ct Try.prog 9 [.v (.slice A xs.length c), .v (.slice B ys.length d)] [] G fun sv H' G' => sv = .v (.bool (decide (xs = ys))) ∧ H' = [] ∧ G' = G := by
  have htop := hs.top
  have hcap := hs.cap
  refine fn_of follows [(6, (.cons 0 [] (.cons 1 [] (.cons 2 [] (.cons 3 [] (.cons 4 [] (.cons 5 [] (.cons 6 [] (.cons 7 [] (.cons 8 [] .nil))))))))))] Try.func9 rfl rfl fun E hE => ?_
  repeat' ((fail_if_success with_reducible refine Stop.mk ?_); (conv => whnf); with_reducible first | refine br_t ?_ | refine br_f ?_ | refine br_nn ?_ | refine br_ns ?_ | refine br_not ?_ | refine br_d (fun h => ?_) (fun h => ?_) | refine br_e (fun h => ?_) (fun h => ?_) | refine br_n (fun h => ?_) (fun h => ?_) | refine drw (by kernel_rfl) ?_ | refine chk (by kernel_rfl) ?_ | refine stop ?_)
  all_goals refine Stop.mk ?_
  · refine loop_rule follows [(6, (.cons 0 [] (.cons 1 [] (.cons 2 [] (.cons 3 [] (.cons 4 [] (.cons 5 [] (.cons 6 [] (.cons 7 [] (.cons 8 [] .nil))))))))))] (α := Nat) (fun k s => (k ≤ xs.length ∧ ∀ i, i < k → xs.getD i 0 = ys.getD i 0) ∧
      s = ⟨mkF 26 [(0, .v (.slice A xs.length c)), (1, .v (.slice B ys.length d)), (5, .v (.int .i64 k))], [], G⟩) (fun k => xs.length - k) ⟨0, _, ⟨⟨by omega, fun i hi => by omega⟩, rfl⟩, rfl, rfl, ?_⟩ ?_
    · (repeat' (first | exact trivial | exact .inl rfl | exact .inr rfl | refine And.intro ?_ ?_))
    rintro k s ⟨⟨h1, h2⟩, rfl⟩
    repeat' ((fail_if_success with_reducible refine Stop.mk ?_); (conv => whnf); with_reducible first | refine br_t ?_ | refine br_f ?_ | refine br_nn ?_ | refine br_ns ?_ | refine br_not ?_ | refine br_d (fun h => ?_) (fun h => ?_) | refine br_e (fun h => ?_) (fun h => ?_) | refine br_n (fun h => ?_) (fun h => ?_) | refine drw (by kernel_rfl) ?_ | refine chk (by kernel_rfl) ?_ | refine stop ?_)
    all_goals refine Stop.mk ?_
    · have hw2 : IntKind.i64.wrap ((k : Int) + 1) = ((k + 1 : Nat) : Int) := by rw [i64_in (by omega) (by omega)]; simp
      refine ⟨⟨by omega, by omega⟩, _, hs, fun ad had hadr => ?_⟩
      repeat' ((fail_if_success with_reducible refine Stop.mk ?_); (conv => whnf); with_reducible first | refine br_t ?_ | refine br_f ?_ | refine br_nn ?_ | refine br_ns ?_ | refine br_not ?_ | refine br_d (fun h => ?_) (fun h => ?_) | refine br_e (fun h => ?_) (fun h => ?_) | refine br_n (fun h => ?_) (fun h => ?_) | refine drw (by kernel_rfl) ?_ | refine chk (by kernel_rfl) ?_ | refine stop ?_)
      all_goals refine Stop.mk ?_
      refine ⟨_, el1 had (by omega), ?_⟩
      repeat' ((fail_if_success with_reducible refine Stop.mk ?_); (conv => whnf); with_reducible first | refine br_t ?_ | refine br_f ?_ | refine br_nn ?_ | refine br_ns ?_ | refine br_not ?_ | refine br_d (fun h => ?_) (fun h => ?_) | refine br_e (fun h => ?_) (fun h => ?_) | refine br_n (fun h => ?_) (fun h => ?_) | refine drw (by kernel_rfl) ?_ | refine chk (by kernel_rfl) ?_ | refine stop ?_)
      all_goals refine Stop.mk ?_
      refine ⟨⟨by omega, by omega⟩, _, ht, fun ad2 had2 hadrad2 => ?_⟩
      repeat' ((fail_if_success with_reducible refine Stop.mk ?_); (conv => whnf); with_reducible first | refine br_t ?_ | refine br_f ?_ | refine br_nn ?_ | refine br_ns ?_ | refine br_not ?_ | refine br_d (fun h => ?_) (fun h => ?_) | refine br_e (fun h => ?_) (fun h => ?_) | refine br_n (fun h => ?_) (fun h => ?_) | refine drw (by kernel_rfl) ?_ | refine chk (by kernel_rfl) ?_ | refine stop ?_)
      all_goals refine Stop.mk ?_
      refine ⟨_, el1 had2 (by omega), ?_⟩
      rw [Int.toNat_natCast]
      repeat' ((fail_if_success with_reducible refine Stop.mk ?_); (conv => whnf); with_reducible first | refine br_t ?_ | refine br_f ?_ | refine br_nn ?_ | refine br_ns ?_ | refine br_not ?_ | refine br_d (fun h => ?_) (fun h => ?_) | refine br_e (fun h => ?_) (fun h => ?_) | refine br_n (fun h => ?_) (fun h => ?_) | refine drw (by kernel_rfl) ?_ | refine chk (by kernel_rfl) ?_ | refine stop ?_)
      all_goals refine Stop.mk ?_
      · rw [hw2]
        refine ⟨k + 1, _, ⟨⟨by omega, fun i hi => ?_⟩, rfl⟩, by omega, rfl, rfl, ?_⟩
        · by_cases hik : i = k
          · subst hik; assumption
          · exact h2 i (by omega)
        · (repeat' (first | exact trivial | exact .inl rfl | exact .inr rfl | refine And.intro ?_ ?_))
      · refine fin_all ⟨?_, rfl, rfl⟩
        rw [decide_eq_false]
        intro he
        subst he
        exact absurd rfl (by assumption)
    · refine fin_all ⟨?_, rfl, rfl⟩
      rw [decide_eq_true]
      exact getD_eq (by omega) fun i hi => h2 i (by omega)
  · refine fin_all ⟨?_, rfl, rfl⟩
    rw [decide_eq_false]
    intro he
    subst he
    exact absurd rfl (by assumption)
end Go.Proofs.Ytchebkpcgglllaa.Cu

namespace Go.Proofs.Ytchebkpcgglllaa.Cu
open Go Go.SX Go.Proofs.Ytchebkpcgglllaa.VT
set_option maxRecDepth 100000
set_option linter.unusedVariables false
set_option linter.unusedSimpArgs false

theorem SlB.of {G : Gh} {A : Option Addr} {n c sz : Nat} {xs : List Value} (l : List Int) (h : Sl G A n c sz xs) (h1 : n = l.length) (h2 : sz = 1) (h3 : xs = byts l) : SlB G A c l := by subst h1 h2 h3; exact h
theorem SlB.to {G G' : Gh} {A : Option Addr} {c : Nat} {l : List Int} (h : SlB G A c l) (hg : Ghe G G') : SlB G' A c l :=
  ⟨h.len, h.cap, h.top, fun ad had j v hj => by
    have := h.there ad had j v hj
    unfold Gcell at this ⊢
    split at this <;> rename_i hx
    · rw [hg _ _ hx]; exact this
    · simp at this, h.nil, h.ones⟩
instance (l : List Int) : Decidable (isB l) := inferInstanceAs (Decidable (∀ x ∈ l, 0 ≤ x ∧ x ≤ 255))
def b1 : List Int := [172, 2, 5]
def b2 : List Int := [2, 0, 0, 0]
theorem b1_is : isB b1 := by decide
theorem b2_is : isB b2 := by decide
end Go.Proofs.Ytchebkpcgglllaa.Cu

namespace Go.Proofs.Ytchebkpcgglllaa.Cu
open Go Go.SX Go.Proofs.Ytchebkpcgglllaa.VT
set_option maxRecDepth 100000
set_option linter.unusedVariables false
set_option linter.unusedSimpArgs false

/-- What is left, and the error. -/
abbrev Ps := List Int × Int
def curL (A : Option Addr) (bs : List Int) (c : Nat) (p : Ps) : Ob := curO A bs.length c ((bs.length - p.1.length : Nat) : Int) p.2
/-- A cursor over bytes that nobody changes. -/
structure CurOK (G : Gh) (A : Option Addr) (c : Nat) (bs : List Int) (p : Ps) : Prop where
  hb : isB bs
  hs : SlB G A c bs
  hl : bs.length ≤ 140737488355328
  suf : p.1 <:+ bs
theorem CurOK.to {G G' : Gh} {A : Option Addr} {c : Nat} {bs : List Int} {p : Ps} (h : CurOK G A c bs p) (hg : Ghe G G') : CurOK G' A c bs p := ⟨h.hb, Sl.to hg h.hs, h.hl, h.suf⟩
theorem CurOK.next {G : Gh} {A : Option Addr} {c : Nat} {bs : List Int} {p q : Ps} (h : CurOK G A c bs p) (hq : q.1 <:+ p.1) : CurOK G A c bs q := ⟨h.hb, h.hs, h.hl, hq.trans h.suf⟩
theorem CurOK.drop {G : Gh} {A : Option Addr} {c : Nat} {bs : List Int} {p : Ps} (h : CurOK G A c bs p) : bs.drop (bs.length - p.1.length) = p.1 := (List.suffix_iff_eq_drop.1 h.suf).symm
theorem CurOK.le {G : Gh} {A : Option Addr} {c : Nat} {bs : List Int} {p : Ps} (h : CurOK G A c bs p) : p.1.length ≤ bs.length := h.suf.length_le
theorem CurOK.isb {G : Gh} {A : Option Addr} {c : Nat} {bs : List Int} {p : Ps} (h : CurOK G A c bs p) : isB p.1 := by rw [← h.drop]; exact isB_drop h.hb _
theorem curL_at (A : Option Addr) (bs : List Int) (c : Nat) {l l' : List Int} (e : Int) {a n : Nat} (ha : a = bs.length - l.length) (hl : l.length ≤ bs.length) (hn : n ≤ l.length) (hl' : l'.length = l.length - n) : curO A bs.length c ((a + n : Nat) : Int) e = curL A bs c (l', e) := by
  subst ha
  unfold curL
  simp only
  rw [show bs.length - l.length + n = bs.length - l'.length by omega]

/-! ### Byte -/
def sByte (p : Ps) : Int × Ps :=
  if p.2 ≠ 0 then (0, p) else match p.1 with
    | [] => (0, ([], 1))
    | x :: l => (x, (l, 0))
theorem sByte_suf (p : Ps) : (sByte p).2.1 <:+ p.1 := by
  unfold sByte
  split
  · exact List.suffix_refl _
  · split
    · rename_i h; rw [h]; exact List.suffix_refl _
    · rename_i x l h; rw [h]; exact List.suffix_cons x l
theorem sByte_err {p : Ps} (h : p.2 ≠ 0) : sByte p = (0, p) := if_pos h
theorem sByte_range {p : Ps} (hb : isB p.1) : 0 ≤ (sByte p).1 ∧ (sByte p).1 ≤ 255 := by
  unfold sByte
  split
  · simp
  · split
    · simp
    · rename_i x l h; exact hb x (by rw [h]; simp)
theorem pbyte_fn {G : Gh} {A : Option Addr} {bs : List Int} {c : Nat} {p : Ps} (h : CurOK G A c bs p) :
    Ct Try.prog 24 [.p 0 0] [curL A bs c p] G fun sv H' G' => sv = .v (.int .u8 (sByte p).1) ∧ H' = [curL A bs c (sByte p).2] ∧ G' = G := by
  have h1 := byte_fn G A bs c (bs.length - p.1.length) p.2 h.hb h.hs (by omega)
  have hd := h.drop
  have hle := h.le
  have key : cByte bs (bs.length - p.1.length) p.2 = ((sByte p).1, bs.length - (sByte p).2.1.length, (sByte p).2.2) := by
    obtain ⟨l, e⟩ := p
    simp only at hd hle ⊢
    unfold cByte sByte
    by_cases he : e = 0
    · subst he
      cases l with
      | nil => simp
      | cons x l =>
        simp only [List.length_cons] at hle hd ⊢
        have hx : bs.getD (bs.length - (l.length + 1)) 0 = x := by
          have := congrArg (fun q : List Int => q[0]?) hd
          simp only [List.getElem?_drop, List.getElem?_cons_zero, Nat.add_zero] at this
          rw [List.getD_eq_getElem?_getD, this]; rfl
        simp only [ne_eq, not_true_eq_false, if_false]
        rw [if_neg (by omega), hx, show bs.length - (l.length + 1) + 1 = bs.length - l.length by omega]
    · simp [he]
  rw [key] at h1
  exact h1
/-! ### Uint -/
def sUint (most : Int) (p : Ps) : Int × Ps :=
  if p.2 ≠ 0 then (0, p) else if whyU most (vdec 0 p.1) = 0 then ((vdec 0 p.1).1, (p.1.drop (vdec 0 p.1).2.1.toNat, 0)) else (0, (p.1, whyU most (vdec 0 p.1)))
theorem sUint_suf (most : Int) (p : Ps) : (sUint most p).2.1 <:+ p.1 := by
  unfold sUint
  split
  · exact List.suffix_refl _
  · split
    · exact List.drop_suffix _ _
    · exact List.suffix_refl _
theorem sUint_err {most : Int} {p : Ps} (h : p.2 ≠ 0) : sUint most p = (0, p) := if_pos h
theorem sUint_range {most : Int} {p : Ps} (hb : isB p.1) : 0 ≤ (sUint most p).1 ∧ (sUint most p).1 < 18446744073709551616 ∧ (0 ≤ most → (sUint most p).1 ≤ most) := by
  unfold sUint
  rcases vdec_form hb with ⟨x, hx, h⟩ | ⟨n, m, h, h3, h4, h5, _⟩ <;> rw [h] <;> unfold whyU <;> (repeat' split) <;> simp at * <;> omega
theorem puint_fn {G : Gh} {A : Option Addr} {bs : List Int} {c : Nat} {p : Ps} (most : Int) (h : CurOK G A c bs p) :
    Ct Try.prog 27 [.p 0 0, .v (.int .u64 most)] [curL A bs c p] G fun sv H' G' => sv = .v (.int .u64 (sUint most p).1) ∧ H' = [curL A bs c (sUint most p).2] ∧ G' = G := by
  have h1 := uint_fn G A bs c (bs.length - p.1.length) p.2 most h.hb h.hs (by omega)
  have hle := h.le
  have key : cUint bs (bs.length - p.1.length) p.2 most = ((sUint most p).1, bs.length - (sUint most p).2.1.length, (sUint most p).2.2) := by
    unfold cUint sUint
    rw [h.drop]
    split
    · rfl
    · split
      · rcases vdec_form h.isb with ⟨x, hx, h⟩ | ⟨n, m, h, h3, h4, h5, _⟩ <;> rw [h] <;> simp <;> omega
      · rfl
  rw [key] at h1
  exact h1
def sInt (p : Ps) : Int × Ps := (unzig (sUint 18446744073709551615 p).1, (sUint 18446744073709551615 p).2)
theorem sInt_suf (p : Ps) : (sInt p).2.1 <:+ p.1 := sUint_suf _ _
theorem sInt_err {p : Ps} (h : p.2 ≠ 0) : sInt p = (0, p) := by unfold sInt; rw [sUint_err h]; rfl
theorem pint_fn {G : Gh} {A : Option Addr} {bs : List Int} {c : Nat} {p : Ps} (h : CurOK G A c bs p) :
    Ct Try.prog 65 [.p 0 0] [curL A bs c p] G fun sv H' G' => sv = .v (.int .i64 (sInt p).1) ∧ H' = [curL A bs c (sInt p).2] ∧ G' = G := by
  refine fn_of follows [] Try.func65 rfl rfl fun E hE => ?_
  repeat' ((fail_if_success with_reducible refine Stop.mk ?_); (conv => whnf); with_reducible first | refine br_t ?_ | refine br_f ?_ | refine br_nn ?_ | refine br_ns ?_ | refine br_not ?_ | refine br_d (fun h => ?_) (fun h => ?_) | refine br_e (fun h => ?_) (fun h => ?_) | refine br_n (fun h => ?_) (fun h => ?_) | refine drw (by kernel_rfl) ?_ | refine chk (by kernel_rfl) ?_ | refine stop ?_)
  all_goals refine Stop.mk ?_
  refine call_fn [0] (puint_fn 18446744073709551615 h) rfl ⟨rfl, trivial⟩ (by decide) ?_
  rintro sv H' G' ⟨rfl, rfl, rfl⟩ -
  refine ⟨Nat.le_of_ble_eq_true rfl, ?_⟩
  have hr := sUint_range (most := 18446744073709551615) h.isb
  repeat' ((fail_if_success with_reducible refine Stop.mk ?_); (conv => whnf); with_reducible first | refine br_t ?_ | refine br_f ?_ | refine br_nn ?_ | refine br_ns ?_ | refine br_not ?_ | refine br_d (fun h => ?_) (fun h => ?_) | refine br_e (fun h => ?_) (fun h => ?_) | refine br_n (fun h => ?_) (fun h => ?_) | refine drw (by kernel_rfl) ?_ | refine chk (by kernel_rfl) ?_ | refine stop ?_)
  all_goals refine Stop.mk ?_
  refine call_fn [] (unzigzag_fn _ _ hr.1 hr.2.1) rfl trivial (by decide) ?_
  rintro sv H' G' ⟨rfl, rfl, rfl⟩ -
  refine ⟨Nat.le_of_ble_eq_true rfl, ?_⟩
  repeat' ((fail_if_success with_reducible refine Stop.mk ?_); (conv => whnf); with_reducible first | refine br_t ?_ | refine br_f ?_ | refine br_nn ?_ | refine br_ns ?_ | refine br_not ?_ | refine br_d (fun h => ?_) (fun h => ?_) | refine br_e (fun h => ?_) (fun h => ?_) | refine br_n (fun h => ?_) (fun h => ?_) | refine drw (by kernel_rfl) ?_ | refine chk (by kernel_rfl) ?_ | refine stop ?_)
  all_goals refine Stop.mk ?_
  exact fin_all ⟨rfl, rfl, rfl⟩
/-! ### Count, Bytes -/
def sCount (most size : Int) (p : Ps) : Int × Ps :=
  if p.2 ≠ 0 then (0, p) else if (resC most size p.1).2.2 = 0 then ((resC most size p.1).1, (p.1.drop (resC most size p.1).2.1.toNat, 0)) else (0, (p.1, (resC most size p.1).2.2))
theorem sCount_suf (most size : Int) (p : Ps) : (sCount most size p).2.1 <:+ p.1 := by
  unfold sCount
  split
  · exact List.suffix_refl _
  · split
    · exact List.drop_suffix _ _
    · exact List.suffix_refl _
theorem sCount_err {most size : Int} {p : Ps} (h : p.2 ≠ 0) : sCount most size p = (0, p) := if_pos h
theorem sCount_range {most size : Int} {p : Ps} (hb : isB p.1) (hm : 0 ≤ most) : 0 ≤ (sCount most size p).1 ∧ (sCount most size p).1 ≤ most := by
  unfold sCount
  split
  · simp; omega
  · rcases resC_form hb most size with ⟨x, hx, h⟩ | ⟨n, m, _, _, h, _, h1, _⟩ <;> rw [h]
    · simp [hx]; omega
    · simp; omega
theorem pcount_fn {G : Gh} {A : Option Addr} {bs : List Int} {c : Nat} {p : Ps} (most size : Int) (h : CurOK G A c bs p) (hm : most ≤ 9223372036854775807) (hz : size ≤ 9223372036854775807) :
    Ct Try.prog 66 [.p 0 0, .v (.int .i64 most), .v (.int .i64 size)] [curL A bs c p] G fun sv H' G' => sv = .v (.int .i64 (sCount most size p).1) ∧ H' = [curL A bs c (sCount most size p).2] ∧ G' = G := by
  have h1 := count_fn G A bs c (bs.length - p.1.length) p.2 most size h.hb h.hs (by omega) hm hz
  have hle := h.le
  have key : cCount bs (bs.length - p.1.length) p.2 most size = ((sCount most size p).1, bs.length - (sCount most size p).2.1.length, (sCount most size p).2.2) := by
    unfold cCount sCount
    rw [h.drop]
    split
    · rfl
    · rcases resC_form h.isb most size with ⟨x, hx, h⟩ | ⟨n, m, _, _, h, _, h1, _, h2, _⟩ <;> rw [h]
      · simp [hx]
      · simp; omega
  rw [key] at h1
  exact h1
def sBytes (n : Int) (p : Ps) : List Int × Ps :=
  if p.2 ≠ 0 then ([], p) else if n < 0 then ([], (p.1, 32)) else if n > p.1.length then ([], (p.1, 1)) else (p.1.take n.toNat, (p.1.drop n.toNat, 0))
theorem sBytes_suf (n : Int) (p : Ps) : (sBytes n p).2.1 <:+ p.1 := by
  unfold sBytes
  split
  · exact List.suffix_refl _
  · split
    · exact List.suffix_refl _
    · split
      · exact List.suffix_refl _
      · exact List.drop_suffix _ _
theorem sBytes_err {n : Int} {p : Ps} (h : p.2 ≠ 0) : sBytes n p = ([], p) := if_pos h
theorem sBytes_isb {n : Int} {p : Ps} (hb : isB p.1) : isB (sBytes n p).1 := by
  unfold sBytes
  split
  · intro x hx; simp at hx
  · split
    · intro x hx; simp at hx
    · split
      · intro x hx; simp at hx
      · exact isB_take hb _
theorem pbytes_fn {G : Gh} {A : Option Addr} {bs : List Int} {c : Nat} {p : Ps} (n : Int) (h : CurOK G A c bs p) (hn : n ≤ 9223372036854775807) :
    Ct Try.prog 29 [.p 0 0, .v (.int .i64 n)] [curL A bs c p] G fun sv H' G' =>
      (∃ A' c', sv = .v (.slice A' (sBytes n p).1.length c') ∧ SlB G' A' c' (sBytes n p).1) ∧ H' = [curL A bs c (sBytes n p).2] := by
  have h1 := bytes_fn G A bs c (bs.length - p.1.length) p.2 n h.hs (by omega) h.hl hn
  have hle := h.le
  have key : cBytes bs (bs.length - p.1.length) p.2 n = ((sBytes n p).1, bs.length - (sBytes n p).2.1.length, (sBytes n p).2.2) := by
    unfold cBytes sBytes
    rw [h.drop]
    rw [show bs.length - (bs.length - p.1.length) = p.1.length by omega]
    split
    · rfl
    · split
      · rfl
      · split
        · rfl
        · simp; omega
  rw [key] at h1
  exact h1
/-! ### Fail, End, Err, Left -/
def sFail (why : Int) (p : Ps) : Ps := (p.1, failE p.2 why)
theorem sFail_suf (why : Int) (p : Ps) : (sFail why p).1 <:+ p.1 := List.suffix_refl _
theorem pfail_fn {G : Gh} {A : Option Addr} {bs : List Int} {c : Nat} {p : Ps} (why : Int) :
    Ct Try.prog 26 [.p 0 0, .v (.int .i64 why)] [curL A bs c p] G fun sv H' G' => sv = .tup [] ∧ H' = [curL A bs c (sFail why p)] ∧ G' = G :=
  fail_fn G A bs.length c _ p.2 why
def sLeft (p : Ps) : Int := if p.2 = 0 then p.1.length else 0
theorem pleft_fn {G : Gh} {A : Option Addr} {bs : List Int} {c : Nat} {p : Ps} (h : CurOK G A c bs p) :
    Ct Try.prog 28 [.p 0 0] [curL A bs c p] G fun sv H' G' => sv = .v (.int .i64 (sLeft p)) ∧ H' = [curL A bs c p] ∧ G' = G := by
  have hle := h.le
  have hl := h.hl
  have h1 := left_fn G A bs.length c ((bs.length - p.1.length : Nat) : Int) p.2 (by omega) (by omega) (by omega)
  have : leftN bs.length ((bs.length - p.1.length : Nat) : Int) p.2 = sLeft p := by unfold leftN sLeft; split <;> omega
  rw [this] at h1
  exact h1
def sEnd (p : Ps) : Ps := (p.1, if sLeft p > 0 then 2 else p.2)
theorem pend_fn {G : Gh} {A : Option Addr} {bs : List Int} {c : Nat} {p : Ps} (h : CurOK G A c bs p) :
    Ct Try.prog 30 [.p 0 0] [curL A bs c p] G fun sv H' G' => sv = .tup [] ∧ H' = [curL A bs c (sEnd p)] ∧ G' = G := by
  have hle := h.le
  have hl := h.hl
  have h1 := end_fn G A bs.length c ((bs.length - p.1.length : Nat) : Int) p.2 (by omega) (by omega) (by omega)
  have : leftN bs.length ((bs.length - p.1.length : Nat) : Int) p.2 = sLeft p := by unfold leftN sLeft; split <;> omega
  rw [this] at h1
  exact h1
theorem perr_fn {G : Gh} {A : Option Addr} {bs : List Int} {c : Nat} {p : Ps} :
    Ct Try.prog 25 [.p 0 0] [curL A bs c p] G fun sv H' G' => sv = .v (.int .i64 p.2) ∧ H' = [curL A bs c p] ∧ G' = G :=
  err_fn G A bs.length c _ p.2
theorem pnew_fn (G : Gh) (A : Option Addr) (bs : List Int) (c : Nat) (hb : isB bs) (hs : SlB G A c bs) (hlen : bs.length ≤ 140737488355328) :
    Ct Try.prog 23 [.v (.slice A bs.length c)] [] G fun sv H' G' => ∃ A' c', sv = .p 0 0 ∧ H' = [curL A' bs c' (bs, 0)] ∧ CurOK G' A' c' bs (bs, 0) := by
  have h := new_fn G A bs c hs hlen
  refine ⟨h.enters, fun ρ w ys hA hargs => (h.calls ρ w ys hA hargs).mono fun e w' hh => ?_⟩
  obtain ⟨v, sv, H', G', ρ', rfl, ⟨A', c', rfl, rfl, hs'⟩, hA', hr⟩ := hh
  refine ⟨v, _, _, G', ρ', rfl, ⟨A', c', rfl, ?_, hb, hs', hlen, List.suffix_refl _⟩, hA', hr⟩
  unfold curL
  simp only [Nat.sub_self]
  rfl
end Go.Proofs.Ytchebkpcgglllaa.Cu

namespace Go.Proofs.Ytchebkpcgglllaa.Cu
open Go Go.SX Go.Proofs.Ytchebkpcgglllaa.VT
set_option maxRecDepth 100000
set_option linter.unusedVariables false
set_option linter.unusedSimpArgs false

def rowB (l : List Int) : Ob := .row 5 1 l.length (byts l)
theorem byts_app (l m : List Int) : byts (l ++ m) = byts l ++ byts m := by simp [byts]
theorem rput_fn (G : Gh) (v : Nat) (hv : v < 18446744073709551616) :
    Ct Try.prog 59 [.v (.int .u64 v)] [] G fun sv H' G' => sv = .s 0 ∧ H' = [rowB (putB v)] ∧ G' = G := by
  refine fn_of follows [] Try.func59 rfl rfl fun E hE => ?_
  repeat' ((fail_if_success with_reducible refine Stop.mk ?_); (conv => whnf); with_reducible first | refine br_t ?_ | refine br_f ?_ | refine br_nn ?_ | refine br_ns ?_ | refine br_not ?_ | refine br_d (fun h => ?_) (fun h => ?_) | refine br_e (fun h => ?_) (fun h => ?_) | refine br_n (fun h => ?_) (fun h => ?_) | refine drw (by kernel_rfl) ?_ | refine chk (by kernel_rfl) ?_ | refine stop ?_)
  all_goals refine Stop.mk ?_
  refine loop_gh (gh_birth 3 5 1 rfl) ?_
  rintro _ _ ⟨rfl, rfl⟩
  refine loop_vars follows [] (α := Nat × Nat × List Int) (fun x => [(0, .v (.int .u64 x.2.1)), (3, .s 0)]) (fun x => [rowB x.2.2]) (fun x => G)
    (fun x => x.1 ≤ 9 ∧ x.2.1 < 2 ^ (1 + 7 * x.1) ∧ x.2.2 ++ vput x.1 x.2.1 = putB v) (fun x => x.1) (9, v, []) ⟨Nat.le_refl _, by simpa using hv, rfl⟩ rfl rfl ?_ ?_
  ·
    refine ⟨?_⟩
    (conv => whnf)
    (repeat' (first | exact trivial | exact .inl rfl | exact .inr rfl | refine And.intro ?_ ?_))
  rintro ⟨i, u, out⟩ ⟨h1, h2, h3⟩
  dsimp only at h1 h2 h3 ⊢
  have h64 : 2 ^ (1 + 7 * i) ≤ 18446744073709551616 := by
    have := Nat.pow_le_pow_right (n := 2) (by decide) (show 1 + 7 * i ≤ 64 by omega)
    omega
  have hlen : out.length ≤ 10 := by
    have := congrArg List.length h3
    have h5 := putB_len v
    rw [List.length_append] at this
    have h4 : (putB v).length ≤ 10 := h5
    omega
  repeat' ((fail_if_success with_reducible refine Stop.mk ?_); (conv => whnf); with_reducible first | refine br_t ?_ | refine br_f ?_ | refine br_nn ?_ | refine br_ns ?_ | refine br_not ?_ | refine br_d (fun h => ?_) (fun h => ?_) | refine br_e (fun h => ?_) (fun h => ?_) | refine br_n (fun h => ?_) (fun h => ?_) | refine drw (by kernel_rfl) ?_ | refine chk (by kernel_rfl) ?_ | refine stop ?_)
  all_goals refine Stop.mk ?_
  · cases i with
    | zero => simp at h2; omega
    | succ j =>
      rw [Int.tmod_eq_emod_of_nonneg (by omega)]
      have e1 : IntKind.u8.wrap (IntKind.u8.wrap ((u : Int) % 128) + 128) = ((u % 128 + 128 : Nat) : Int) := by simp only [IntKind.wrap_u8]; omega
      have e2 : IntKind.u64.wrap ((u : Int) / 128) = ((u / 128 : Nat) : Int) := by rw [u64_in (by omega) (by omega)]; omega
      rw [e1]
      refine ⟨by simp [Value.oneCell'], ⟨by show (out.length + 1) * 1 ≤ _; omega, ?_⟩⟩
      repeat' ((fail_if_success with_reducible refine Stop.mk ?_); (conv => whnf); with_reducible first | refine br_t ?_ | refine br_f ?_ | refine br_nn ?_ | refine br_ns ?_ | refine br_not ?_ | refine br_d (fun h => ?_) (fun h => ?_) | refine br_e (fun h => ?_) (fun h => ?_) | refine br_n (fun h => ?_) (fun h => ?_) | refine drw (by kernel_rfl) ?_ | refine chk (by kernel_rfl) ?_ | refine stop ?_)
      all_goals refine Stop.mk ?_
      rw [Int.tdiv_eq_ediv_of_nonneg (by omega), e2]
      have hst : vput (j + 1) u = ((u % 128 + 128 : Nat) : Int) :: vput j (u / 128) := by simp only [vput]; rw [if_neg (by omega)]
      refine tell_gc hE [0] rfl rfl ?_
      (conv => whnf)
      refine tell_here ⟨(j, u / 128, out ++ [((u % 128 + 128 : Nat) : Int)]), ⟨by show j ≤ 9; omega, ?_, ?_⟩, by show j < j + 1; omega, ?_, rfl, ?_⟩
      · show u / 128 < 2 ^ (1 + 7 * j)
        have := pow_step j
        omega
      · show (out ++ [_]) ++ vput j (u / 128) = putB v
        rw [← h3, hst]; simp
      · show [rowB _] = _
        unfold rowB
        rw [List.length_append, byts_app]; rfl
      ·
        refine ⟨?_⟩
        (conv => whnf)
        (repeat' (first | exact trivial | exact .inl rfl | exact .inr rfl | refine And.intro ?_ ?_))
  · have hst : vput i u = [(u : Int)] := by cases i with
      | zero => rfl
      | succ j => simp only [vput]; rw [if_pos (by omega)]
    have e1 : IntKind.u8.wrap (u : Int) = u := by simp only [IntKind.wrap_u8]; omega
    rw [e1]
    refine ⟨by simp [Value.oneCell'], ⟨by show (out.length + 1) * 1 ≤ _; omega, ?_⟩⟩
    repeat' ((fail_if_success with_reducible refine Stop.mk ?_); (conv => whnf); with_reducible first | refine br_t ?_ | refine br_f ?_ | refine br_nn ?_ | refine br_ns ?_ | refine br_not ?_ | refine br_d (fun h => ?_) (fun h => ?_) | refine br_e (fun h => ?_) (fun h => ?_) | refine br_n (fun h => ?_) (fun h => ?_) | refine drw (by kernel_rfl) ?_ | refine chk (by kernel_rfl) ?_ | refine stop ?_)
    all_goals refine Stop.mk ?_
    refine fin_mk hE [0] (.s 0) [rowB (putB v)] rfl ⟨?_, trivial⟩ rfl ⟨rfl, rfl, rfl⟩
    rw [← h3, hst]
    show some _ = some _
    unfold rowB
    rw [List.length_append, byts_app]; rfl
end Go.Proofs.Ytchebkpcgglllaa.Cu
