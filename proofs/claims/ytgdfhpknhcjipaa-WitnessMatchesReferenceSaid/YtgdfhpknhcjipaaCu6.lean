/- The writer. -/
import Derived.Test.YtgdfhpknhcjipaaCu5
namespace Go.Proofs.Ytgdfhpknhcjipaa.Cu
open Go Go.SX Go.Proofs.Ytgdfhpknhcjipaa.VT
set_option maxRecDepth 100000
set_option linter.unusedVariables false

/-- A writer that has written these bytes. -/
def wrH (xs : List Int) : List Ob := [.cells 61 [.s 1], .row 5 1 xs.length (byts xs)]
def wr0 : List Ob := [.cells 61 [.v (.slice none 0 0)]]
theorem wbytes_fn (G : Gh) (A : Option Addr) (c : Nat) (bs xs : List Int) (hs : SlB G A c bs) (hlen : xs.length + bs.length ≤ 140737488355328) :
    Ct Try.prog 42 [.p 0 0, .v (.slice A bs.length c)] (wrH xs) G fun sv H' G' => sv = .tup [] ∧ H' = wrH (xs ++ bs) ∧ G' = G := by
  refine fn_of follows [] Try.func42 rfl rfl fun E hE => ?_
  repeat' ((fail_if_success with_reducible refine Stop.mk ?_); (conv => whnf); with_reducible first | refine br_t ?_ | refine br_f ?_ | refine br_nn ?_ | refine br_ns ?_ | refine br_not ?_ | refine br_d (fun h => ?_) (fun h => ?_) | refine br_e (fun h => ?_) (fun h => ?_) | refine br_n (fun h => ?_) (fun h => ?_) | refine drw (by kernel_rfl) ?_ | refine chk (by kernel_rfl) ?_ | refine stop ?_)
  all_goals refine Stop.mk ?_
  refine ⟨_, hs, ⟨by show (xs.length + bs.length) * 1 ≤ _; omega, ?_⟩⟩
  repeat' ((fail_if_success with_reducible refine Stop.mk ?_); (conv => whnf); with_reducible first | refine br_t ?_ | refine br_f ?_ | refine br_nn ?_ | refine br_ns ?_ | refine br_not ?_ | refine br_d (fun h => ?_) (fun h => ?_) | refine br_e (fun h => ?_) (fun h => ?_) | refine br_n (fun h => ?_) (fun h => ?_) | refine drw (by kernel_rfl) ?_ | refine chk (by kernel_rfl) ?_ | refine stop ?_)
  all_goals refine Stop.mk ?_
  refine fin_all ⟨rfl, ?_, rfl⟩
  unfold wrH
  rw [List.length_append, show byts (xs ++ bs) = byts xs ++ byts bs by simp [byts]]
  rfl
theorem wbytes0_fn (G : Gh) (A : Option Addr) (c : Nat) (bs : List Int) (hs : SlB G A c bs) (hlen : bs.length ≤ 140737488355328) :
    Ct Try.prog 42 [.p 0 0, .v (.slice A bs.length c)] wr0 G fun sv H' G' => sv = .tup [] ∧ H' = wrH bs ∧ G' = G := by
  refine fn_of follows [] Try.func42 rfl rfl fun E hE => ?_
  repeat' ((fail_if_success with_reducible refine Stop.mk ?_); (conv => whnf); with_reducible first | refine br_t ?_ | refine br_f ?_ | refine br_nn ?_ | refine br_ns ?_ | refine br_not ?_ | refine br_d (fun h => ?_) (fun h => ?_) | refine br_e (fun h => ?_) (fun h => ?_) | refine br_n (fun h => ?_) (fun h => ?_) | refine drw (by kernel_rfl) ?_ | refine chk (by kernel_rfl) ?_ | refine stop ?_)
  all_goals refine Stop.mk ?_
  refine ⟨_, hs, by show bs.length * 1 ≤ _; omega, ?_⟩
  repeat' ((fail_if_success with_reducible refine Stop.mk ?_); (conv => whnf); with_reducible first | refine br_t ?_ | refine br_f ?_ | refine br_nn ?_ | refine br_ns ?_ | refine br_not ?_ | refine br_d (fun h => ?_) (fun h => ?_) | refine br_e (fun h => ?_) (fun h => ?_) | refine br_n (fun h => ?_) (fun h => ?_) | refine drw (by kernel_rfl) ?_ | refine chk (by kernel_rfl) ?_ | refine stop ?_)
  all_goals refine Stop.mk ?_
  exact fin_all ⟨rfl, rfl, rfl⟩
theorem putB_len (x : Nat) : (putB x).length ≤ 10 := vput_len_le 9 x
theorem wuint_fn (G : Gh) (x : Nat) (xs : List Int) (hx : x < 18446744073709551616) (hlen : xs.length ≤ 1000000) :
    Ct Try.prog 41 [.p 0 0, .v (.int .u64 x)] (wrH xs) G fun sv H' G' => sv = .tup [] ∧ H' = wrH (xs ++ putB x) := by
  refine fn_of follows [] Try.func41 rfl rfl fun E hE => ?_
  have hp := putB_len x
  repeat' ((fail_if_success with_reducible refine Stop.mk ?_); (conv => whnf); with_reducible first | refine br_t ?_ | refine br_f ?_ | refine br_nn ?_ | refine br_ns ?_ | refine br_not ?_ | refine br_d (fun h => ?_) (fun h => ?_) | refine br_e (fun h => ?_) (fun h => ?_) | refine br_n (fun h => ?_) (fun h => ?_) | refine drw (by kernel_rfl) ?_ | refine chk (by kernel_rfl) ?_ | refine stop ?_)
  all_goals refine Stop.mk ?_
  refine call_fn [] (put_fn G x hx) rfl trivial (by decide) ?_
  rintro sv H' G' ⟨⟨A, c, rfl, hs⟩, rfl⟩ _
  refine ⟨Nat.zero_le _, ?_⟩
  repeat' ((fail_if_success with_reducible refine Stop.mk ?_); (conv => whnf); with_reducible first | refine br_t ?_ | refine br_f ?_ | refine br_nn ?_ | refine br_ns ?_ | refine br_not ?_ | refine br_d (fun h => ?_) (fun h => ?_) | refine br_e (fun h => ?_) (fun h => ?_) | refine br_n (fun h => ?_) (fun h => ?_) | refine drw (by kernel_rfl) ?_ | refine chk (by kernel_rfl) ?_ | refine stop ?_)
  all_goals refine Stop.mk ?_
  refine call_fn [0, 1] (wbytes_fn _ A c (putB x) xs hs (by omega)) rfl ⟨rfl, rfl, trivial⟩ (by decide) ?_
  rintro sv H' G' ⟨rfl, rfl, rfl⟩ hg
  refine ⟨by simp [wrH], ?_⟩
  repeat' ((fail_if_success with_reducible refine Stop.mk ?_); (conv => whnf); with_reducible first | refine br_t ?_ | refine br_f ?_ | refine br_nn ?_ | refine br_ns ?_ | refine br_not ?_ | refine br_d (fun h => ?_) (fun h => ?_) | refine br_e (fun h => ?_) (fun h => ?_) | refine br_n (fun h => ?_) (fun h => ?_) | refine drw (by kernel_rfl) ?_ | refine chk (by kernel_rfl) ?_ | refine stop ?_)
  all_goals refine Stop.mk ?_
  exact fin_all ⟨rfl, rfl⟩
theorem wuint0_fn (G : Gh) (x : Nat) (hx : x < 18446744073709551616) :
    Ct Try.prog 41 [.p 0 0, .v (.int .u64 x)] wr0 G fun sv H' G' => sv = .tup [] ∧ H' = wrH (putB x) := by
  refine fn_of follows [] Try.func41 rfl rfl fun E hE => ?_
  have hp := putB_len x
  repeat' ((fail_if_success with_reducible refine Stop.mk ?_); (conv => whnf); with_reducible first | refine br_t ?_ | refine br_f ?_ | refine br_nn ?_ | refine br_ns ?_ | refine br_not ?_ | refine br_d (fun h => ?_) (fun h => ?_) | refine br_e (fun h => ?_) (fun h => ?_) | refine br_n (fun h => ?_) (fun h => ?_) | refine drw (by kernel_rfl) ?_ | refine chk (by kernel_rfl) ?_ | refine stop ?_)
  all_goals refine Stop.mk ?_
  refine call_fn [] (put_fn G x hx) rfl trivial (by decide) ?_
  rintro sv H' G' ⟨⟨A, c, rfl, hs⟩, rfl⟩ _
  refine ⟨Nat.zero_le _, ?_⟩
  repeat' ((fail_if_success with_reducible refine Stop.mk ?_); (conv => whnf); with_reducible first | refine br_t ?_ | refine br_f ?_ | refine br_nn ?_ | refine br_ns ?_ | refine br_not ?_ | refine br_d (fun h => ?_) (fun h => ?_) | refine br_e (fun h => ?_) (fun h => ?_) | refine br_n (fun h => ?_) (fun h => ?_) | refine drw (by kernel_rfl) ?_ | refine chk (by kernel_rfl) ?_ | refine stop ?_)
  all_goals refine Stop.mk ?_
  refine call_fn [0] (wbytes0_fn _ A c (putB x) hs (by omega)) rfl ⟨rfl, trivial⟩ (by decide) ?_
  rintro sv H' G' ⟨rfl, rfl, rfl⟩ hg
  refine ⟨by simp [wrH], ?_⟩
  repeat' ((fail_if_success with_reducible refine Stop.mk ?_); (conv => whnf); with_reducible first | refine br_t ?_ | refine br_f ?_ | refine br_nn ?_ | refine br_ns ?_ | refine br_not ?_ | refine br_d (fun h => ?_) (fun h => ?_) | refine br_e (fun h => ?_) (fun h => ?_) | refine br_n (fun h => ?_) (fun h => ?_) | refine drw (by kernel_rfl) ?_ | refine chk (by kernel_rfl) ?_ | refine stop ?_)
  all_goals refine Stop.mk ?_
  exact fin_all ⟨rfl, rfl⟩
theorem wbyte_fn (G : Gh) (x : Int) (xs : List Int) (hlen : xs.length ≤ 1000000) :
    Ct Try.prog 40 [.p 0 0, .v (.int .u8 x)] (wrH xs) G fun sv H' G' => sv = .tup [] ∧ H' = wrH (xs ++ [x]) := by
  refine fn_of follows [] Try.func40 rfl rfl fun E hE => ?_
  repeat' ((fail_if_success with_reducible refine Stop.mk ?_); (conv => whnf); with_reducible first | refine br_t ?_ | refine br_f ?_ | refine br_nn ?_ | refine br_ns ?_ | refine br_not ?_ | refine br_d (fun h => ?_) (fun h => ?_) | refine br_e (fun h => ?_) (fun h => ?_) | refine br_n (fun h => ?_) (fun h => ?_) | refine drw (by kernel_rfl) ?_ | refine chk (by kernel_rfl) ?_ | refine stop ?_)
  all_goals refine Stop.mk ?_
  refine call_done 2 rfl (by simp [Value.oneCell']) (fun A c G2 hg hs => call_fn [0, 1] (wbytes_fn G2 A c [x] xs hs (by simp; omega)) rfl ⟨rfl, rfl, trivial⟩ (by decide) ?_) (wbytes_fn G none 0 [] [] (slB_nil _) (by simp)).enters
  rintro sv H' G' ⟨rfl, rfl, rfl⟩ hg
  refine ⟨by simp [wrH], ?_⟩
  repeat' ((fail_if_success with_reducible refine Stop.mk ?_); (conv => whnf); with_reducible first | refine br_t ?_ | refine br_f ?_ | refine br_nn ?_ | refine br_ns ?_ | refine br_not ?_ | refine br_d (fun h => ?_) (fun h => ?_) | refine br_e (fun h => ?_) (fun h => ?_) | refine br_n (fun h => ?_) (fun h => ?_) | refine drw (by kernel_rfl) ?_ | refine chk (by kernel_rfl) ?_ | refine stop ?_)
  all_goals refine Stop.mk ?_
  exact fin_id hE 2 rfl rfl rfl rfl ⟨rfl, rfl⟩
/-- Out, the result a slice of its own. -/
theorem wout_fn (G : Gh) (xs : List Int) (hlen : xs.length ≤ 100000000) :
    Ct Try.prog 32 [.p 0 0] (wrH xs) G fun sv H' G' => sv = .s 2 ∧ H' = wrH xs ++ [.row 5 1 xs.length (byts xs)] ∧ G' = G := by
  refine fn_of follows [] Try.func32 rfl rfl fun E hE => ?_
  repeat' ((fail_if_success with_reducible refine Stop.mk ?_); (conv => whnf); with_reducible first | refine br_t ?_ | refine br_f ?_ | refine br_nn ?_ | refine br_ns ?_ | refine br_not ?_ | refine br_d (fun h => ?_) (fun h => ?_) | refine br_e (fun h => ?_) (fun h => ?_) | refine br_n (fun h => ?_) (fun h => ?_) | refine drw (by kernel_rfl) ?_ | refine chk (by kernel_rfl) ?_ | refine stop ?_)
  all_goals refine Stop.mk ?_
  refine ⟨byts_one _, by show (0 + xs.length) * 1 ≤ _; omega, ?_⟩
  repeat' ((fail_if_success with_reducible refine Stop.mk ?_); (conv => whnf); with_reducible first | refine br_t ?_ | refine br_f ?_ | refine br_nn ?_ | refine br_ns ?_ | refine br_not ?_ | refine br_d (fun h => ?_) (fun h => ?_) | refine br_e (fun h => ?_) (fun h => ?_) | refine br_n (fun h => ?_) (fun h => ?_) | refine drw (by kernel_rfl) ?_ | refine chk (by kernel_rfl) ?_ | refine stop ?_)
  all_goals refine Stop.mk ?_
  refine fin_all ⟨rfl, ?_, rfl⟩
  simp only [Nat.zero_add]
  rfl
/-- The reference's comparison. -/
theorem getD_eq {l m : List Int} (hl : l.length = m.length) (h : ∀ i, i < l.length → l.getD i 0 = m.getD i 0) : l = m := by
  refine List.ext_getElem hl fun i h1 h2 => ?_
  have := h i h1
  simpa [List.getD_eq_getElem?_getD, List.getElem?_eq_getElem h1, List.getElem?_eq_getElem h2] using this
theorem same_fn (G : Gh) (A B : Option Addr) (c d : Nat) (xs ys : List Int) (hs : SlB G A c xs) (ht : SlB G B d ys) :
    Ct Try.prog 18 [.v (.slice A xs.length c), .v (.slice B ys.length d)] [] G fun sv H' G' => sv = .v (.bool (decide (xs = ys))) ∧ H' = [] ∧ G' = G := by
  have htop := hs.top
  have hcap := hs.cap
  refine fn_of follows [(6, (.cons 0 [] (.cons 1 [] (.cons 2 [] (.cons 3 [] (.cons 4 [] (.cons 5 [] (.cons 6 [] (.cons 7 [] (.cons 8 [] .nil))))))))))] Try.func18 rfl rfl fun E hE => ?_
  repeat' ((fail_if_success with_reducible refine Stop.mk ?_); (conv => whnf); with_reducible first | refine br_t ?_ | refine br_f ?_ | refine br_nn ?_ | refine br_ns ?_ | refine br_not ?_ | refine br_d (fun h => ?_) (fun h => ?_) | refine br_e (fun h => ?_) (fun h => ?_) | refine br_n (fun h => ?_) (fun h => ?_) | refine drw (by kernel_rfl) ?_ | refine chk (by kernel_rfl) ?_ | refine stop ?_)
  all_goals refine Stop.mk ?_
  · refine loop_rule follows [(6, (.cons 0 [] (.cons 1 [] (.cons 2 [] (.cons 3 [] (.cons 4 [] (.cons 5 [] (.cons 6 [] (.cons 7 [] (.cons 8 [] .nil))))))))))] (α := Nat) (fun k s => (k ≤ xs.length ∧ ∀ i, i < k → xs.getD i 0 = ys.getD i 0) ∧
      s = ⟨mkF 26 [(0, .v (.slice A xs.length c)), (1, .v (.slice B ys.length d)), (5, .v (.int .i64 k))], [], G⟩) (fun k => xs.length - k) ⟨0, _, ⟨⟨by omega, fun i hi => by omega⟩, rfl⟩, rfl, rfl, ?_⟩ ?_
    · (repeat' (first | exact trivial | exact .inl rfl | exact .inr rfl | refine And.intro ?_ ?_))
    rintro k s ⟨⟨h1, h2⟩, rfl⟩
    repeat' ((fail_if_success with_reducible refine Stop.mk ?_); (conv => whnf); with_reducible first | refine br_t ?_ | refine br_f ?_ | refine br_nn ?_ | refine br_ns ?_ | refine br_not ?_ | refine br_d (fun h => ?_) (fun h => ?_) | refine br_e (fun h => ?_) (fun h => ?_) | refine br_n (fun h => ?_) (fun h => ?_) | refine drw (by kernel_rfl) ?_ | refine chk (by kernel_rfl) ?_ | refine stop ?_)
    all_goals refine Stop.mk ?_
    · have hw2 : IntKind.i64.wrap ((k : Int) + 1) = ((k + 1 : Nat) : Int) := by rw [i64_in (by omega) (by omega)]; simp
      refine ⟨⟨by omega, by omega⟩, _, hs, fun ad had => ?_⟩
      repeat' ((fail_if_success with_reducible refine Stop.mk ?_); (conv => whnf); with_reducible first | refine br_t ?_ | refine br_f ?_ | refine br_nn ?_ | refine br_ns ?_ | refine br_not ?_ | refine br_d (fun h => ?_) (fun h => ?_) | refine br_e (fun h => ?_) (fun h => ?_) | refine br_n (fun h => ?_) (fun h => ?_) | refine drw (by kernel_rfl) ?_ | refine chk (by kernel_rfl) ?_ | refine stop ?_)
      all_goals refine Stop.mk ?_
      refine ⟨_, el1 had (by omega), ?_⟩
      repeat' ((fail_if_success with_reducible refine Stop.mk ?_); (conv => whnf); with_reducible first | refine br_t ?_ | refine br_f ?_ | refine br_nn ?_ | refine br_ns ?_ | refine br_not ?_ | refine br_d (fun h => ?_) (fun h => ?_) | refine br_e (fun h => ?_) (fun h => ?_) | refine br_n (fun h => ?_) (fun h => ?_) | refine drw (by kernel_rfl) ?_ | refine chk (by kernel_rfl) ?_ | refine stop ?_)
      all_goals refine Stop.mk ?_
      refine ⟨⟨by omega, by omega⟩, _, ht, fun ad2 had2 => ?_⟩
      repeat' ((fail_if_success with_reducible refine Stop.mk ?_); (conv => whnf); with_reducible first | refine br_t ?_ | refine br_f ?_ | refine br_nn ?_ | refine br_ns ?_ | refine br_not ?_ | refine br_d (fun h => ?_) (fun h => ?_) | refine br_e (fun h => ?_) (fun h => ?_) | refine br_n (fun h => ?_) (fun h => ?_) | refine drw (by kernel_rfl) ?_ | refine chk (by kernel_rfl) ?_ | refine stop ?_)
      all_goals refine Stop.mk ?_
      refine ⟨_, el1 had2 (by omega), ?_⟩
      rw [Int.toNat_natCast]
      repeat' ((fail_if_success with_reducible refine Stop.mk ?_); (conv => whnf); with_reducible first | refine br_t ?_ | refine br_f ?_ | refine br_nn ?_ | refine br_ns ?_ | refine br_not ?_ | refine br_d (fun h => ?_) (fun h => ?_) | refine br_e (fun h => ?_) (fun h => ?_) | refine br_n (fun h => ?_) (fun h => ?_) | refine drw (by kernel_rfl) ?_ | refine chk (by kernel_rfl) ?_ | refine stop ?_)
      all_goals refine Stop.mk ?_
      · rw [hw2]
        refine ⟨k + 1, _, ⟨⟨by omega, fun i hi => ?_⟩, rfl⟩, by omega, rfl, rfl, ?_⟩
        · by_cases hik : i = k
          · subst hik; assumption
          · exact h2 i (by omega)
        · (repeat' (first | exact trivial | exact .inl rfl | exact .inr rfl | refine And.intro ?_ ?_))
      · refine fin_all ⟨?_, rfl, rfl⟩
        rw [decide_eq_false]
        intro he
        subst he
        exact absurd rfl (by assumption)
    · refine fin_all ⟨?_, rfl, rfl⟩
      rw [decide_eq_true]
      exact getD_eq (by omega) fun i hi => h2 i (by omega)
  · refine fin_all ⟨?_, rfl, rfl⟩
    rw [decide_eq_false]
    intro he
    subst he
    exact absurd rfl (by assumption)
end Go.Proofs.Ytgdfhpknhcjipaa.Cu
