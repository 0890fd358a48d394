/- The law: a cursor and a writer are independent of the slices given and returned. -/
import Derived.Test.YtbggecnabbnkdaaCub
import Derived.Test.YtbggecnabbnkdaaSXT
namespace Go.Proofs.Ytbggecnabbnkdaa.Cu
open Go Go.SX Go.Proofs.Ytbggecnabbnkdaa.VT
set_option maxRecDepth 100000
set_option linter.unusedVariables false
set_option linter.unusedSimpArgs false

theorem ghe2 {G G' G2 : Gh} (h : Ghe G G') (h' : Ghe G' G2) : Ghe G G2 := fun b o ho => h' b o (h b o ho)
theorem byts_at (l : List Int) (k : Nat) (hk : k < l.length) : (byts l)[(Int.toNat (k : Int)) * 1]? = some (.int .u8 (l.getD k 0)) := by
  simp [byts, List.getD_eq_getElem?_getD, hk]
theorem byts_setI (l : List Int) (k : Nat) (v : Int) : (byts l).set ((Int.toNat (k : Int)) * 1) (.int .u8 v) = byts (l.set k v) := by
  simp [byts, List.map_set]
theorem sameN_fn (G : Gh) (A B : Option Addr) (c d : Nat) (xs ys : List Int) (n1 n2 : Nat) (h1 : n1 = xs.length) (h2 : n2 = ys.length) (hs : Sl G A n1 c 1 (byts xs)) (ht : Sl G B n2 d 1 (byts ys)) :
    Ct Try.prog 8 [.v (.slice A n1 c), .v (.slice B n2 d)] [] G fun sv H' G' => sv = .v (.bool (decide (xs = ys))) ∧ H' = [] ∧ G' = G := by
  subst h1 h2
  exact same_fn G A B c d xs ys hs ht
/-- New, and nobody knew of its copy. -/
theorem newF_fn (G : Gh) (A : Option Addr) (bs : List Int) (c : Nat) (hs : SlB G A c bs) (hlen : bs.length ≤ 140737488355328) :
    Ct Try.prog 5 [.v (.slice A bs.length c)] [] G fun sv H' G' => ∃ A' c', sv = .p 0 0 ∧ H' = [curO A' bs.length c' 0 0] ∧ SlB G' A' c' bs ∧ Fresh G A' := by
  refine fn_of follows [] Try.func5 rfl rfl fun E hE => ?_
  repeat' ((fail_if_success with_reducible refine Stop.mk ?_); (conv => whnf); with_reducible first | refine br_t ?_ | refine br_f ?_ | refine br_nn ?_ | refine br_ns ?_ | refine br_not ?_ | refine br_d (fun h => ?_) (fun h => ?_) | refine br_e (fun h => ?_) (fun h => ?_) | refine br_n (fun h => ?_) (fun h => ?_) | refine drw (by kernel_rfl) ?_ | refine chk (by kernel_rfl) ?_ | refine stop ?_)
  all_goals refine Stop.mk ?_
  refine ⟨_, hs, ⟨by show (0 + bs.length) * 1 ≤ _; omega, ?_⟩⟩
  repeat' ((fail_if_success with_reducible refine Stop.mk ?_); (conv => whnf); with_reducible first | refine br_t ?_ | refine br_f ?_ | refine br_nn ?_ | refine br_ns ?_ | refine br_not ?_ | refine br_d (fun h => ?_) (fun h => ?_) | refine br_e (fun h => ?_) (fun h => ?_) | refine br_n (fun h => ?_) (fun h => ?_) | refine drw (by kernel_rfl) ?_ | refine chk (by kernel_rfl) ?_ | refine stop ?_)
  all_goals refine Stop.mk ?_
  refine fin_done' 0 rfl (by simpa using byts_one bs) fun A2 c2 G2 hg hf hsl => fin_mk hE [1] (.p 0 0) [curO A2 bs.length c2 0 0] rfl ⟨?_, trivial⟩ rfl ⟨A2, c2, rfl, rfl, ?_, hf⟩
  · show nth _ _ = _
    simp only [Nat.zero_add]
    rfl
  · have h := hsl
    simp only [Nat.zero_add, List.nil_append] at h
    exact h
/-- Bytes, the result a slice of its own. -/
theorem bytes1o_fn (G : Gh) (A : Option Addr) (c : Nat) (bs : List Int) (n : Nat) (hs : SlB G A c bs) (hlen : bs.length ≤ 140737488355328) (hnn : n ≤ bs.length) :
    Ct Try.prog 19 [.v (.slice A bs.length c), .p 0 0, .p 1 0] [intO n, slO none 0 0] G fun sv H' G' =>
      sv = .tup [.v (.int .i64 n), .v (.int .i64 0)] ∧ H' = [intO n, .cells 22 [.s 2], rowB (bs.take n)] ∧ G' = G := by
  have hc := hs.cap
  have htop := hs.top
  refine fn_of follows [(5, (.cons 0 [] (.cons 1 [] (.cons 2 [] (.cons 3 [] (.cons 4 [0, 2] (.cons 5 [0, 2] .nil)))))))] Try.func19 rfl rfl fun E hE => ?_
  repeat' ((fail_if_success with_reducible refine Stop.mk ?_); (conv => whnf); with_reducible first | refine br_t ?_ | refine br_f ?_ | refine br_nn ?_ | refine br_ns ?_ | refine br_not ?_ | refine br_d (fun h => ?_) (fun h => ?_) | refine br_e (fun h => ?_) (fun h => ?_) | refine br_n (fun h => ?_) (fun h => ?_) | refine drw (by kernel_rfl) ?_ | refine chk (by kernel_rfl) ?_ | refine stop ?_)
  all_goals refine Stop.mk ?_
  all_goals try (exfalso; omega)
  refine ⟨⟨by omega, by omega⟩, fun A' hA' => ?_⟩
  obtain rfl : A' = A := by rw [hA']; split; · rfl
                            cases A <;> simp [Addr.add]
  rw [Int.toNat_natCast]
  repeat' ((fail_if_success with_reducible refine Stop.mk ?_); (conv => whnf); with_reducible first | refine br_t ?_ | refine br_f ?_ | refine br_nn ?_ | refine br_ns ?_ | refine br_not ?_ | refine br_d (fun h => ?_) (fun h => ?_) | refine br_e (fun h => ?_) (fun h => ?_) | refine br_n (fun h => ?_) (fun h => ?_) | refine drw (by kernel_rfl) ?_ | refine chk (by kernel_rfl) ?_ | refine stop ?_)
  all_goals refine Stop.mk ?_
  refine ⟨byts (bs.take n), slB_take hs n (by omega), (by show n * 1 ≤ _; omega), ?_⟩
  repeat' ((fail_if_success with_reducible refine Stop.mk ?_); (conv => whnf); with_reducible first | refine br_t ?_ | refine br_f ?_ | refine br_nn ?_ | refine br_ns ?_ | refine br_not ?_ | refine br_d (fun h => ?_) (fun h => ?_) | refine br_e (fun h => ?_) (fun h => ?_) | refine br_n (fun h => ?_) (fun h => ?_) | refine drw (by kernel_rfl) ?_ | refine chk (by kernel_rfl) ?_ | refine stop ?_)
  all_goals refine Stop.mk ?_
  refine fin_all ⟨rfl, ?_, rfl⟩
  have h1 : (bs.take n).length = n := by rw [List.length_take]; omega
  unfold rowB
  rw [h1]
  rfl
theorem readB_fn (G : Gh) (A : Option Addr) (bs : List Int) (c a n : Nat) (hs : SlB G A c bs) (hlen : bs.length ≤ 140737488355328) (ha : a + n ≤ bs.length) :
    Ct Try.prog 18 [.p 0 0, .f (.func 19) [] [.p 1 0, .p 2 0]] [curO A bs.length c a 0, intO n, slO none 0 0] G fun sv H' G' =>
      sv = .tup [] ∧ H' = [curO A bs.length c (a + n : Nat) 0, intO n, .cells 22 [.s 3], rowB ((bs.drop a).take n)] ∧ G' = G := by
  refine fn_of follows [(1, (.cons 0 [] (.cons 1 [] (.cons 2 [] (.cons 3 [] (.cons 4 [] (.cons 5 [] (.cons 6 [] (.cons 7 [] (.cons 8 [] (.cons 9 [] (.cons 10 [4, 8] (.cons 11 [] (.cons 12 [] (.cons 13 [] (.cons 14 [] (.cons 15 [] .nil)))))))))))))))))] Try.func18 rfl rfl fun E hE => ?_
  have hc := hs.cap
  have htop := hs.top
  repeat' ((fail_if_success with_reducible refine Stop.mk ?_); (conv => whnf); with_reducible first | refine br_t ?_ | refine br_f ?_ | refine br_nn ?_ | refine br_ns ?_ | refine br_not ?_ | refine br_d (fun h => ?_) (fun h => ?_) | refine br_e (fun h => ?_) (fun h => ?_) | refine br_n (fun h => ?_) (fun h => ?_) | refine drw (by kernel_rfl) ?_ | refine chk (by kernel_rfl) ?_ | refine stop ?_)
  all_goals refine Stop.mk ?_
  all_goals try (exfalso; omega)
  refine ⟨⟨by omega, by omega⟩, fun A' hA' => ?_⟩
  rw [Int.toNat_natCast] at hA' ⊢
  have hs' := slB_drop hs a (by omega) hA'
  have hl : (bs.drop a).length = bs.length - a := by simp
  rw [show bs.length - a = (bs.drop a).length by simp]
  repeat' ((fail_if_success with_reducible refine Stop.mk ?_); (conv => whnf); with_reducible first | refine br_t ?_ | refine br_f ?_ | refine br_nn ?_ | refine br_ns ?_ | refine br_not ?_ | refine br_d (fun h => ?_) (fun h => ?_) | refine br_e (fun h => ?_) (fun h => ?_) | refine br_n (fun h => ?_) (fun h => ?_) | refine drw (by kernel_rfl) ?_ | refine chk (by kernel_rfl) ?_ | refine stop ?_)
  all_goals refine Stop.mk ?_
  all_goals try (exfalso; omega)
  refine call_fn [1, 2] (bytes1o_fn _ A' (c - a) (bs.drop a) n hs' (by omega) (by omega)) rfl ⟨rfl, rfl, trivial⟩ (by decide) ?_
  rintro sv H' G' ⟨rfl, rfl, rfl⟩ -
  refine ⟨Nat.le_of_ble_eq_true rfl, ?_⟩
  repeat' ((fail_if_success with_reducible refine Stop.mk ?_); (conv => whnf); with_reducible first | refine br_t ?_ | refine br_f ?_ | refine br_nn ?_ | refine br_ns ?_ | refine br_not ?_ | refine br_d (fun h => ?_) (fun h => ?_) | refine br_e (fun h => ?_) (fun h => ?_) | refine br_n (fun h => ?_) (fun h => ?_) | refine drw (by kernel_rfl) ?_ | refine chk (by kernel_rfl) ?_ | refine stop ?_)
  all_goals refine Stop.mk ?_
  all_goals try (exfalso; omega)
  rw [show IntKind.i64.wrap ((a : Int) + (n : Int)) = ((a + n : Nat) : Int) by rw [i64_in (by omega) (by omega)]; simp]
  exact fin_all ⟨rfl, rfl, rfl⟩
theorem byteso_fn (G : Gh) (A : Option Addr) (bs : List Int) (c a n : Nat) (hs : SlB G A c bs) (hlen : bs.length ≤ 140737488355328) (ha : a + n ≤ bs.length) :
    Ct Try.prog 7 [.p 0 0, .v (.int .i64 n)] [curO A bs.length c a 0] G fun sv H' G' =>
      sv = .s 1 ∧ H' = [curO A bs.length c (a + n : Nat) 0, rowB ((bs.drop a).take n)] ∧ G' = G := by
  refine fn_of follows [] Try.func7 rfl rfl fun E hE => ?_
  repeat' ((fail_if_success with_reducible refine Stop.mk ?_); (conv => whnf); with_reducible first | refine br_t ?_ | refine br_f ?_ | refine br_nn ?_ | refine br_ns ?_ | refine br_not ?_ | refine br_d (fun h => ?_) (fun h => ?_) | refine br_e (fun h => ?_) (fun h => ?_) | refine br_n (fun h => ?_) (fun h => ?_) | refine drw (by kernel_rfl) ?_ | refine chk (by kernel_rfl) ?_ | refine stop ?_)
  all_goals refine Stop.mk ?_
  refine call_fn [0, 1, 2] (readB_fn _ A bs c a n hs hlen ha) rfl ⟨rfl, rfl, rfl, trivial⟩ (by decide) ?_
  rintro sv H' G' ⟨rfl, rfl, rfl⟩ -
  refine ⟨Nat.le_of_ble_eq_true rfl, ?_⟩
  repeat' ((fail_if_success with_reducible refine Stop.mk ?_); (conv => whnf); with_reducible first | refine br_t ?_ | refine br_f ?_ | refine br_nn ?_ | refine br_ns ?_ | refine br_not ?_ | refine br_d (fun h => ?_) (fun h => ?_) | refine br_e (fun h => ?_) (fun h => ?_) | refine br_n (fun h => ?_) (fun h => ?_) | refine drw (by kernel_rfl) ?_ | refine chk (by kernel_rfl) ?_ | refine stop ?_)
  all_goals refine Stop.mk ?_
  exact fin_mk hE [0, 3] (.s 1) [curO A bs.length c (a + n : Nat) 0, rowB ((bs.drop a).take n)] rfl ⟨rfl, rfl, trivial⟩ rfl ⟨rfl, rfl, rfl⟩
set_option maxHeartbeats 8000000 in
theorem keeps_fn (G : Gh) (A : Option Addr) (c : Nat) (bs : List Int) (n : Int) (hb : isB bs) (hs : SlB G A c bs) (hn0 : 0 ≤ n) (hn : n < 256) :
    Ct Try.prog 3 [.v (.slice A bs.length c), .v (.int .u8 n)] [] G fun sv H' G' => sv = .v (.bool true) ∧ H' = [] := by
  have htop := hs.top
  have hcap := hs.cap
  refine fn_of follows [(26, (.cons 0 [] (.cons 1 [] (.cons 2 [] (.cons 3 [] (.cons 4 [] (.cons 5 [] (.cons 7 [] (.cons 6 [] (.cons 8 [] (.cons 9 [] (.cons 10 [] (.cons 11 [] (.cons 12 [] (.cons 13 [] (.cons 14 [] (.cons 15 [] (.cons 17 [] (.cons 18 [] (.cons 19 [] (.cons 16 [] (.cons 20 [] (.cons 21 [] (.cons 22 [] .nil))))))))))))))))))))))))] Try.func3 rfl rfl fun E hE => ?_
  repeat' ((fail_if_success with_reducible refine Stop.mk ?_); (conv => whnf); with_reducible first | refine br_t ?_ | refine br_f ?_ | refine br_nn ?_ | refine br_ns ?_ | refine br_not ?_ | refine br_d (fun h => ?_) (fun h => ?_) | refine br_e (fun h => ?_) (fun h => ?_) | refine br_n (fun h => ?_) (fun h => ?_) | refine drw (by kernel_rfl) ?_ | refine chk (by kernel_rfl) ?_ | refine stop ?_)
  all_goals refine Stop.mk ?_
  refine call_fn [] (awake_fn G) rfl trivial (by decide) ?_
  rintro sv H' G' ⟨rfl, rfl⟩ hg
  replace hs := hs.to hg
  clear hg
  refine ⟨by simp, ?_⟩
  repeat' ((fail_if_success with_reducible refine Stop.mk ?_); (conv => whnf); with_reducible first | refine br_t ?_ | refine br_f ?_ | refine br_nn ?_ | refine br_ns ?_ | refine br_not ?_ | refine br_d (fun h => ?_) (fun h => ?_) | refine br_e (fun h => ?_) (fun h => ?_) | refine br_n (fun h => ?_) (fun h => ?_) | refine drw (by kernel_rfl) ?_ | refine chk (by kernel_rfl) ?_ | refine stop ?_)
  all_goals refine Stop.mk ?_
  · refine call_fn [] (awake_fn _) rfl trivial (by decide) ?_
    rintro sv H' G' ⟨rfl, rfl⟩ -
    refine ⟨by simp, ?_⟩
    repeat' ((fail_if_success with_reducible refine Stop.mk ?_); (conv => whnf); with_reducible first | refine br_t ?_ | refine br_f ?_ | refine br_nn ?_ | refine br_ns ?_ | refine br_not ?_ | refine br_d (fun h => ?_) (fun h => ?_) | refine br_e (fun h => ?_) (fun h => ?_) | refine br_n (fun h => ?_) (fun h => ?_) | refine drw (by kernel_rfl) ?_ | refine chk (by kernel_rfl) ?_ | refine stop ?_)
    all_goals refine Stop.mk ?_
    exact fin_all ⟨rfl, rfl⟩
  refine ⟨_, hs, ⟨by show (0 + bs.length) * 1 ≤ _; omega, ?_⟩⟩
  simp only [Nat.zero_add, List.nil_append]
  repeat' ((fail_if_success with_reducible refine Stop.mk ?_); (conv => whnf); with_reducible first | refine br_t ?_ | refine br_f ?_ | refine br_nn ?_ | refine br_ns ?_ | refine br_not ?_ | refine br_d (fun h => ?_) (fun h => ?_) | refine br_e (fun h => ?_) (fun h => ?_) | refine br_n (fun h => ?_) (fun h => ?_) | refine drw (by kernel_rfl) ?_ | refine chk (by kernel_rfl) ?_ | refine stop ?_)
  all_goals refine Stop.mk ?_
  refine call_lend 0 [] rfl (by simpa using byts_one bs) rfl List.nodup_nil (newF_fn G none [] 0 (slB_nil _) (by decide)).enters ?_
  intro A2 c2 G2 hg2 hf2 hin2 hsl2
  refine ⟨_, [], _, rfl, trivial, newF_fn G2 A2 bs c2 hsl2 (by omega), ?_⟩
  rintro sv H' G3 ⟨A1, c1, rfl, rfl, hs1, hf1⟩ hg3
  refine ⟨by simp, ?_⟩
  repeat' ((fail_if_success with_reducible refine Stop.mk ?_); (conv => whnf); with_reducible first | refine br_t ?_ | refine br_f ?_ | refine br_nn ?_ | refine br_ns ?_ | refine br_not ?_ | refine br_d (fun h => ?_) (fun h => ?_) | refine br_e (fun h => ?_) (fun h => ?_) | refine br_n (fun h => ?_) (fun h => ?_) | refine drw (by kernel_rfl) ?_ | refine chk (by kernel_rfl) ?_ | refine stop ?_)
  all_goals refine Stop.mk ?_
  have hs3 : SlB (rmG A2 G3) A c bs := Sl.back (G1 := G2) hs (ghe2 hg2 hg3) hf2
  have hs4 : SlB (rmG A2 G3) A1 c1 bs := Sl.rm hs1 fun a b ha hb e => by
    have h1 := hf1 a ha
    obtain ⟨o, ho⟩ := hin2 b hb
    rw [e, ho] at h1; cases h1
  generalize rmG A2 G3 = G5 at hs3 hs4 ⊢
  clear hs hs1 hg2 hg3 hf1 hf2 hin2 hsl2 G2 G3 A2 c2
  refine call_lend 0 [2] rfl (by simpa using byts_one bs) rfl (by decide) (wbytes0_fn G none 0 [] (slB_nil _) (by decide)).enters ?_
  intro A2 c2 G2 hg2 hf2 hin2 hsl2
  refine ⟨_, wr0, _, rfl, ⟨rfl, trivial⟩, wbytes0_fn G2 A2 c2 bs hsl2 (by omega), ?_⟩
  rintro sv H' G3 ⟨rfl, rfl, -⟩ hg3
  refine ⟨by simp [wrH], ?_⟩
  repeat' ((fail_if_success with_reducible refine Stop.mk ?_); (conv => whnf); with_reducible first | refine br_t ?_ | refine br_f ?_ | refine br_nn ?_ | refine br_ns ?_ | refine br_not ?_ | refine br_d (fun h => ?_) (fun h => ?_) | refine br_e (fun h => ?_) (fun h => ?_) | refine br_n (fun h => ?_) (fun h => ?_) | refine drw (by kernel_rfl) ?_ | refine chk (by kernel_rfl) ?_ | refine stop ?_)
  all_goals refine Stop.mk ?_
  have hs5 : SlB (rmG A2 G3) A c bs := Sl.back (G1 := G2) hs3 (ghe2 hg2 hg3) hf2
  have hs6 : SlB (rmG A2 G3) A1 c1 bs := Sl.back (G1 := G2) hs4 (ghe2 hg2 hg3) hf2
  generalize rmG A2 G3 = G6 at hs5 hs6 ⊢
  clear hs3 hs4 hg2 hg3 hf2 hin2 hsl2 G2 G3 A2 c2
  refine loop_vars follows [(26, (.cons 0 [] (.cons 1 [] (.cons 2 [] (.cons 3 [] (.cons 4 [] (.cons 5 [] (.cons 7 [] (.cons 6 [] (.cons 8 [] (.cons 9 [] (.cons 10 [] (.cons 11 [] (.cons 12 [] (.cons 13 [] (.cons 14 [] (.cons 15 [] (.cons 17 [] (.cons 18 [] (.cons 19 [] (.cons 16 [] (.cons 20 [] (.cons 21 [] (.cons 22 [] .nil))))))))))))))))))))))))] (α := Nat × List Int) (fun x => [(8, .v (.int .i64 x.1))]) (fun x => [.row 5 1 bs.length (byts x.2), curO A1 bs.length c1 0 0, .cells 28 [.s 3], rowB bs]) (fun _ => G6) (fun x => x.1 ≤ bs.length ∧ x.2.length = bs.length) (fun x => bs.length - x.1) (0, bs) ⟨Nat.zero_le _, rfl⟩ rfl rfl ?_ ?_
  ·
    refine ⟨?_⟩
    (conv => whnf)
    (repeat' (first | exact trivial | exact .inl rfl | exact .inr rfl | refine And.intro ?_ ?_))
  intro x hI
  obtain ⟨hk, hl⟩ := hI
  have hw2 : IntKind.i64.wrap ((x.1 : Int) + 1) = ((x.1 + 1 : Nat) : Int) := by rw [i64_in (by omega) (by omega)]; simp
  repeat' ((fail_if_success with_reducible refine Stop.mk ?_); (conv => whnf); with_reducible first | refine br_t ?_ | refine br_f ?_ | refine br_nn ?_ | refine br_ns ?_ | refine br_not ?_ | refine br_d (fun h => ?_) (fun h => ?_) | refine br_e (fun h => ?_) (fun h => ?_) | refine br_n (fun h => ?_) (fun h => ?_) | refine drw (by kernel_rfl) ?_ | refine chk (by kernel_rfl) ?_ | refine stop ?_)
  all_goals refine Stop.mk ?_
  · refine ⟨⟨by omega, by omega⟩, ?_⟩
    repeat' ((fail_if_success with_reducible refine Stop.mk ?_); (conv => whnf); with_reducible first | refine br_t ?_ | refine br_f ?_ | refine br_nn ?_ | refine br_ns ?_ | refine br_not ?_ | refine br_d (fun h => ?_) (fun h => ?_) | refine br_e (fun h => ?_) (fun h => ?_) | refine br_n (fun h => ?_) (fun h => ?_) | refine drw (by kernel_rfl) ?_ | refine chk (by kernel_rfl) ?_ | refine stop ?_)
    all_goals refine Stop.mk ?_
    refine ⟨_, byts_at x.2 x.1 (by omega), ?_⟩
    repeat' ((fail_if_success with_reducible refine Stop.mk ?_); (conv => whnf); with_reducible first | refine br_t ?_ | refine br_f ?_ | refine br_nn ?_ | refine br_ns ?_ | refine br_not ?_ | refine br_d (fun h => ?_) (fun h => ?_) | refine br_e (fun h => ?_) (fun h => ?_) | refine br_n (fun h => ?_) (fun h => ?_) | refine drw (by kernel_rfl) ?_ | refine chk (by kernel_rfl) ?_ | refine stop ?_)
    all_goals refine Stop.mk ?_
    refine ⟨⟨by omega, by omega⟩, ?_⟩
    repeat' ((fail_if_success with_reducible refine Stop.mk ?_); (conv => whnf); with_reducible first | refine br_t ?_ | refine br_f ?_ | refine br_nn ?_ | refine br_ns ?_ | refine br_not ?_ | refine br_d (fun h => ?_) (fun h => ?_) | refine br_e (fun h => ?_) (fun h => ?_) | refine br_n (fun h => ?_) (fun h => ?_) | refine drw (by kernel_rfl) ?_ | refine chk (by kernel_rfl) ?_ | refine stop ?_)
    all_goals refine Stop.mk ?_
    refine ⟨by rw [byts_length]; show x.1 * 1 < x.2.length; omega, ?_⟩
    repeat' ((fail_if_success with_reducible refine Stop.mk ?_); (conv => whnf); with_reducible first | refine br_t ?_ | refine br_f ?_ | refine br_nn ?_ | refine br_ns ?_ | refine br_not ?_ | refine br_d (fun h => ?_) (fun h => ?_) | refine br_e (fun h => ?_) (fun h => ?_) | refine br_n (fun h => ?_) (fun h => ?_) | refine drw (by kernel_rfl) ?_ | refine chk (by kernel_rfl) ?_ | refine stop ?_)
    all_goals refine Stop.mk ?_
    rw [hw2]
    refine tell_here ⟨(x.1 + 1, x.2.set x.1 (IntKind.u8.wrap (x.2.getD x.1 0 + 1))), ⟨by show x.1 + 1 ≤ _; omega, by show (x.2.set _ _).length = _; rw [List.length_set]; exact hl⟩, by show bs.length - (x.1 + 1) < bs.length - x.1; omega, ?_, rfl, ?_⟩
    · rw [← byts_setI]
    ·
      refine ⟨?_⟩
      (conv => whnf)
      (repeat' (first | exact trivial | exact .inl rfl | exact .inr rfl | refine And.intro ?_ ?_))
  obtain ⟨m, hm, hmb⟩ : ∃ m : Nat, (if (bs.length : Int) < IntKind.i64.wrap n then (bs.length : Int) else IntKind.i64.wrap n) = (m : Int) ∧ m ≤ bs.length := by
    rw [i64_in (n := n) (by omega) (by omega)]
    split
    · exact ⟨bs.length, rfl, Nat.le_refl _⟩
    · exact ⟨n.toNat, by omega, by omega⟩
  rw [hm]
  clear hm
  generalize hxl : x.2 = l1 at hl ⊢
  clear hk hw2 hxl
  refine call_fn [1] (byteso_fn _ A1 bs c1 0 m hs6 (by omega) (by omega)) rfl ⟨rfl, trivial⟩ (by decide) ?_
  rintro sv H' G' ⟨rfl, rfl, rfl⟩ -
  refine ⟨Nat.le_of_ble_eq_true rfl, ?_⟩
  rw [List.drop_zero]
  repeat' ((fail_if_success with_reducible refine Stop.mk ?_); (conv => whnf); with_reducible first | refine br_t ?_ | refine br_f ?_ | refine br_nn ?_ | refine br_ns ?_ | refine br_not ?_ | refine br_d (fun h => ?_) (fun h => ?_) | refine br_e (fun h => ?_) (fun h => ?_) | refine br_n (fun h => ?_) (fun h => ?_) | refine drw (by kernel_rfl) ?_ | refine chk (by kernel_rfl) ?_ | refine stop ?_)
  all_goals refine Stop.mk ?_
  refine ⟨⟨by omega, by omega⟩, fun A' hA' => ?_⟩
  obtain rfl : A' = A := by rw [hA']; split; · rfl
                            cases A <;> simp [Addr.add]
  rw [Int.toNat_natCast]
  simp only [Nat.sub_zero]
  clear hA'
  have hlm : (bs.take m).length = m := by rw [List.length_take]; omega
  refine call_lend 4 [] rfl (byts_one _) rfl List.nodup_nil (same_fn G none none 0 0 [] [] (slB_nil _) (slB_nil _)).enters ?_
  intro A2 c2 G2 hg2 hf2 hin2 hsl2
  refine ⟨_, [], _, rfl, trivial, sameN_fn G2 A2 A' c2 c (bs.take m) (bs.take m) _ m rfl hlm.symm hsl2 (Sl.to hg2 (slB_take hs5 m hmb)), ?_⟩
  rintro sv H' G3 ⟨rfl, rfl, -⟩ hg3
  refine ⟨by simp, ?_⟩
  rw [show decide (bs.take m = bs.take m) = true by simp]
  repeat' ((fail_if_success with_reducible refine Stop.mk ?_); (conv => whnf); with_reducible first | refine br_t ?_ | refine br_f ?_ | refine br_nn ?_ | refine br_ns ?_ | refine br_not ?_ | refine br_d (fun h => ?_) (fun h => ?_) | refine br_e (fun h => ?_) (fun h => ?_) | refine br_n (fun h => ?_) (fun h => ?_) | refine drw (by kernel_rfl) ?_ | refine chk (by kernel_rfl) ?_ | refine stop ?_)
  all_goals refine Stop.mk ?_
  have hs7 : SlB (rmG A2 G3) A' c bs := Sl.back (G1 := G2) hs5 (ghe2 hg2 hg3) hf2
  have hs8 : SlB (rmG A2 G3) A1 c1 bs := Sl.back (G1 := G2) hs6 (ghe2 hg2 hg3) hf2
  generalize rmG A2 G3 = G4 at hs7 hs8 ⊢
  clear hs5 hs6 hg2 hg3 hf2 hin2 hsl2 G2 G3 A2 c2
  rw [hlm]
  refine loop_vars follows [(26, (.cons 0 [] (.cons 1 [] (.cons 2 [] (.cons 3 [] (.cons 4 [] (.cons 5 [] (.cons 7 [] (.cons 6 [] (.cons 8 [] (.cons 9 [] (.cons 10 [] (.cons 11 [] (.cons 12 [] (.cons 13 [] (.cons 14 [] (.cons 15 [] (.cons 17 [] (.cons 18 [] (.cons 19 [] (.cons 16 [] (.cons 20 [] (.cons 21 [] (.cons 22 [] .nil))))))))))))))))))))))))] (α := Nat × List Int) (fun x => [(12, .v (.int .i64 x.1))]) (fun x => [.row 5 1 bs.length (byts l1), curO A1 bs.length c1 (0 + m : Nat) 0, .cells 28 [.s 3], rowB bs, .row 5 1 m (byts x.2)]) (fun _ => G4) (fun x => x.1 ≤ m ∧ x.2.length = m) (fun x => m - x.1) (0, bs.take m) ⟨Nat.zero_le _, hlm⟩ rfl rfl ?_ ?_
  ·
    refine ⟨?_⟩
    (conv => whnf)
    (repeat' (first | exact trivial | exact .inl rfl | exact .inr rfl | refine And.intro ?_ ?_))
  intro y hI
  obtain ⟨hk, hl2⟩ := hI
  have hw2 : IntKind.i64.wrap ((y.1 : Int) + 1) = ((y.1 + 1 : Nat) : Int) := by rw [i64_in (by omega) (by omega)]; simp
  repeat' ((fail_if_success with_reducible refine Stop.mk ?_); (conv => whnf); with_reducible first | refine br_t ?_ | refine br_f ?_ | refine br_nn ?_ | refine br_ns ?_ | refine br_not ?_ | refine br_d (fun h => ?_) (fun h => ?_) | refine br_e (fun h => ?_) (fun h => ?_) | refine br_n (fun h => ?_) (fun h => ?_) | refine drw (by kernel_rfl) ?_ | refine chk (by kernel_rfl) ?_ | refine stop ?_)
  all_goals refine Stop.mk ?_
  · refine ⟨⟨by omega, by omega⟩, ?_⟩
    repeat' ((fail_if_success with_reducible refine Stop.mk ?_); (conv => whnf); with_reducible first | refine br_t ?_ | refine br_f ?_ | refine br_nn ?_ | refine br_ns ?_ | refine br_not ?_ | refine br_d (fun h => ?_) (fun h => ?_) | refine br_e (fun h => ?_) (fun h => ?_) | refine br_n (fun h => ?_) (fun h => ?_) | refine drw (by kernel_rfl) ?_ | refine chk (by kernel_rfl) ?_ | refine stop ?_)
    all_goals refine Stop.mk ?_
    refine ⟨_, byts_at y.2 y.1 (by omega), ?_⟩
    repeat' ((fail_if_success with_reducible refine Stop.mk ?_); (conv => whnf); with_reducible first | refine br_t ?_ | refine br_f ?_ | refine br_nn ?_ | refine br_ns ?_ | refine br_not ?_ | refine br_d (fun h => ?_) (fun h => ?_) | refine br_e (fun h => ?_) (fun h => ?_) | refine br_n (fun h => ?_) (fun h => ?_) | refine drw (by kernel_rfl) ?_ | refine chk (by kernel_rfl) ?_ | refine stop ?_)
    all_goals refine Stop.mk ?_
    refine ⟨⟨by omega, by omega⟩, ?_⟩
    repeat' ((fail_if_success with_reducible refine Stop.mk ?_); (conv => whnf); with_reducible first | refine br_t ?_ | refine br_f ?_ | refine br_nn ?_ | refine br_ns ?_ | refine br_not ?_ | refine br_d (fun h => ?_) (fun h => ?_) | refine br_e (fun h => ?_) (fun h => ?_) | refine br_n (fun h => ?_) (fun h => ?_) | refine drw (by kernel_rfl) ?_ | refine chk (by kernel_rfl) ?_ | refine stop ?_)
    all_goals refine Stop.mk ?_
    refine ⟨by rw [byts_length]; show y.1 * 1 < y.2.length; omega, ?_⟩
    repeat' ((fail_if_success with_reducible refine Stop.mk ?_); (conv => whnf); with_reducible first | refine br_t ?_ | refine br_f ?_ | refine br_nn ?_ | refine br_ns ?_ | refine br_not ?_ | refine br_d (fun h => ?_) (fun h => ?_) | refine br_e (fun h => ?_) (fun h => ?_) | refine br_n (fun h => ?_) (fun h => ?_) | refine drw (by kernel_rfl) ?_ | refine chk (by kernel_rfl) ?_ | refine stop ?_)
    all_goals refine Stop.mk ?_
    rw [hw2]
    refine tell_here ⟨(y.1 + 1, y.2.set y.1 (IntKind.u8.wrap (y.2.getD y.1 0 + 1))), ⟨by show y.1 + 1 ≤ _; omega, by show (y.2.set _ _).length = _; rw [List.length_set]; exact hl2⟩, by show m - (y.1 + 1) < m - y.1; omega, ?_, rfl, ?_⟩
    · rw [← byts_setI]
    ·
      refine ⟨?_⟩
      (conv => whnf)
      (repeat' (first | exact trivial | exact .inl rfl | exact .inr rfl | refine And.intro ?_ ?_))
  generalize hxl : y.2 = l2 at hl2 ⊢
  clear hk hw2 hxl
  refine call_fn [2, 3] (wout_fn _ bs (by omega)) rfl ⟨rfl, rfl, trivial⟩ (by decide) ?_
  rintro sv H' G' ⟨rfl, rfl, -⟩ hg
  refine ⟨Nat.le_of_ble_eq_true rfl, ?_⟩
  repeat' ((fail_if_success with_reducible refine Stop.mk ?_); (conv => whnf); with_reducible first | refine br_t ?_ | refine br_f ?_ | refine br_nn ?_ | refine br_ns ?_ | refine br_not ?_ | refine br_d (fun h => ?_) (fun h => ?_) | refine br_e (fun h => ?_) (fun h => ?_) | refine br_n (fun h => ?_) (fun h => ?_) | refine drw (by kernel_rfl) ?_ | refine chk (by kernel_rfl) ?_ | refine stop ?_)
  all_goals refine Stop.mk ?_
  replace hs7 := hs7.to hg
  replace hs8 := hs8.to hg
  clear hg
  refine call_lend 5 [] rfl (byts_one _) rfl List.nodup_nil (same_fn G none none 0 0 [] [] (slB_nil _) (slB_nil _)).enters ?_
  intro A2 c2 G2 hg2 hf2 hin2 hsl2
  refine ⟨_, [], _, rfl, trivial, same_fn G2 A2 A' c2 c bs bs hsl2 (hs7.to hg2), ?_⟩
  rintro sv H' G3 ⟨rfl, rfl, -⟩ hg3
  refine ⟨by simp, ?_⟩
  rw [show decide (bs = bs) = true by simp]
  repeat' ((fail_if_success with_reducible refine Stop.mk ?_); (conv => whnf); with_reducible first | refine br_t ?_ | refine br_f ?_ | refine br_nn ?_ | refine br_ns ?_ | refine br_not ?_ | refine br_d (fun h => ?_) (fun h => ?_) | refine br_e (fun h => ?_) (fun h => ?_) | refine br_n (fun h => ?_) (fun h => ?_) | refine drw (by kernel_rfl) ?_ | refine chk (by kernel_rfl) ?_ | refine stop ?_)
  all_goals refine Stop.mk ?_
  have hs9 : SlB (rmG A2 G3) A' c bs := Sl.back (G1 := G2) hs7 (ghe2 hg2 hg3) hf2
  have hs10 : SlB (rmG A2 G3) A1 c1 bs := Sl.back (G1 := G2) hs8 (ghe2 hg2 hg3) hf2
  generalize rmG A2 G3 = G7 at hs9 hs10 ⊢
  clear hs7 hs8 hg2 hg3 hf2 hin2 hsl2 G2 G3 A2 c2
  refine loop_vars follows [(26, (.cons 0 [] (.cons 1 [] (.cons 2 [] (.cons 3 [] (.cons 4 [] (.cons 5 [] (.cons 7 [] (.cons 6 [] (.cons 8 [] (.cons 9 [] (.cons 10 [] (.cons 11 [] (.cons 12 [] (.cons 13 [] (.cons 14 [] (.cons 15 [] (.cons 17 [] (.cons 18 [] (.cons 19 [] (.cons 16 [] (.cons 20 [] (.cons 21 [] (.cons 22 [] .nil))))))))))))))))))))))))] (α := Nat × List Int) (fun x => [(15, .v (.int .i64 x.1))]) (fun x => [.row 5 1 bs.length (byts l1), curO A1 bs.length c1 (0 + m : Nat) 0, .cells 28 [.s 3], rowB bs, .row 5 1 m (byts l2), .row 5 1 bs.length (byts x.2)]) (fun _ => G7) (fun x => x.1 ≤ bs.length ∧ x.2.length = bs.length) (fun x => bs.length - x.1) (0, bs) ⟨Nat.zero_le _, rfl⟩ rfl rfl ?_ ?_
  ·
    refine ⟨?_⟩
    (conv => whnf)
    (repeat' (first | exact trivial | exact .inl rfl | exact .inr rfl | refine And.intro ?_ ?_))
  intro z hI
  obtain ⟨hk, hl3⟩ := hI
  have hw2 : IntKind.i64.wrap ((z.1 : Int) + 1) = ((z.1 + 1 : Nat) : Int) := by rw [i64_in (by omega) (by omega)]; simp
  repeat' ((fail_if_success with_reducible refine Stop.mk ?_); (conv => whnf); with_reducible first | refine br_t ?_ | refine br_f ?_ | refine br_nn ?_ | refine br_ns ?_ | refine br_not ?_ | refine br_d (fun h => ?_) (fun h => ?_) | refine br_e (fun h => ?_) (fun h => ?_) | refine br_n (fun h => ?_) (fun h => ?_) | refine drw (by kernel_rfl) ?_ | refine chk (by kernel_rfl) ?_ | refine stop ?_)
  all_goals refine Stop.mk ?_
  · refine ⟨⟨by omega, by omega⟩, ?_⟩
    repeat' ((fail_if_success with_reducible refine Stop.mk ?_); (conv => whnf); with_reducible first | refine br_t ?_ | refine br_f ?_ | refine br_nn ?_ | refine br_ns ?_ | refine br_not ?_ | refine br_d (fun h => ?_) (fun h => ?_) | refine br_e (fun h => ?_) (fun h => ?_) | refine br_n (fun h => ?_) (fun h => ?_) | refine drw (by kernel_rfl) ?_ | refine chk (by kernel_rfl) ?_ | refine stop ?_)
    all_goals refine Stop.mk ?_
    refine ⟨_, byts_at z.2 z.1 (by omega), ?_⟩
    repeat' ((fail_if_success with_reducible refine Stop.mk ?_); (conv => whnf); with_reducible first | refine br_t ?_ | refine br_f ?_ | refine br_nn ?_ | refine br_ns ?_ | refine br_not ?_ | refine br_d (fun h => ?_) (fun h => ?_) | refine br_e (fun h => ?_) (fun h => ?_) | refine br_n (fun h => ?_) (fun h => ?_) | refine drw (by kernel_rfl) ?_ | refine chk (by kernel_rfl) ?_ | refine stop ?_)
    all_goals refine Stop.mk ?_
    refine ⟨⟨by omega, by omega⟩, ?_⟩
    repeat' ((fail_if_success with_reducible refine Stop.mk ?_); (conv => whnf); with_reducible first | refine br_t ?_ | refine br_f ?_ | refine br_nn ?_ | refine br_ns ?_ | refine br_not ?_ | refine br_d (fun h => ?_) (fun h => ?_) | refine br_e (fun h => ?_) (fun h => ?_) | refine br_n (fun h => ?_) (fun h => ?_) | refine drw (by kernel_rfl) ?_ | refine chk (by kernel_rfl) ?_ | refine stop ?_)
    all_goals refine Stop.mk ?_
    refine ⟨by rw [byts_length]; show z.1 * 1 < z.2.length; omega, ?_⟩
    repeat' ((fail_if_success with_reducible refine Stop.mk ?_); (conv => whnf); with_reducible first | refine br_t ?_ | refine br_f ?_ | refine br_nn ?_ | refine br_ns ?_ | refine br_not ?_ | refine br_d (fun h => ?_) (fun h => ?_) | refine br_e (fun h => ?_) (fun h => ?_) | refine br_n (fun h => ?_) (fun h => ?_) | refine drw (by kernel_rfl) ?_ | refine chk (by kernel_rfl) ?_ | refine stop ?_)
    all_goals refine Stop.mk ?_
    rw [hw2]
    refine tell_here ⟨(z.1 + 1, z.2.set z.1 (IntKind.u8.wrap (z.2.getD z.1 0 + 1))), ⟨by show z.1 + 1 ≤ _; omega, by show (z.2.set _ _).length = _; rw [List.length_set]; exact hl3⟩, by show bs.length - (z.1 + 1) < bs.length - z.1; omega, ?_, rfl, ?_⟩
    · rw [← byts_setI]
    ·
      refine ⟨?_⟩
      (conv => whnf)
      (repeat' (first | exact trivial | exact .inl rfl | exact .inr rfl | refine And.intro ?_ ?_))
  generalize hxl : z.2 = l3 at hl3 ⊢
  clear hk hw2 hxl
  refine call_fn [2, 3] (wout_fn _ bs (by omega)) rfl ⟨rfl, rfl, trivial⟩ (by decide) ?_
  rintro sv H' G' ⟨rfl, rfl, -⟩ hg
  refine ⟨Nat.le_of_ble_eq_true rfl, ?_⟩
  replace hs9 := hs9.to hg
  replace hs10 := hs10.to hg
  clear hg
  repeat' ((fail_if_success with_reducible refine Stop.mk ?_); (conv => whnf); with_reducible first | refine br_t ?_ | refine br_f ?_ | refine br_nn ?_ | refine br_ns ?_ | refine br_not ?_ | refine br_d (fun h => ?_) (fun h => ?_) | refine br_e (fun h => ?_) (fun h => ?_) | refine br_n (fun h => ?_) (fun h => ?_) | refine drw (by kernel_rfl) ?_ | refine chk (by kernel_rfl) ?_ | refine stop ?_)
  all_goals refine Stop.mk ?_
  refine call_lend 6 [] rfl (byts_one _) rfl List.nodup_nil (same_fn G none none 0 0 [] [] (slB_nil _) (slB_nil _)).enters ?_
  intro A2 c2 G2 hg2 hf2 hin2 hsl2
  refine ⟨_, [], _, rfl, trivial, same_fn G2 A2 A' c2 c bs bs hsl2 (hs9.to hg2), ?_⟩
  rintro sv H' G3 ⟨rfl, rfl, -⟩ hg3
  refine ⟨by simp, ?_⟩
  rw [show decide (bs = bs) = true by simp]
  repeat' ((fail_if_success with_reducible refine Stop.mk ?_); (conv => whnf); with_reducible first | refine br_t ?_ | refine br_f ?_ | refine br_nn ?_ | refine br_ns ?_ | refine br_not ?_ | refine br_d (fun h => ?_) (fun h => ?_) | refine br_e (fun h => ?_) (fun h => ?_) | refine br_n (fun h => ?_) (fun h => ?_) | refine drw (by kernel_rfl) ?_ | refine chk (by kernel_rfl) ?_ | refine stop ?_)
  all_goals refine Stop.mk ?_
  have hs11 : SlB (rmG A2 G3) A' c bs := Sl.back (G1 := G2) hs9 (ghe2 hg2 hg3) hf2
  have hs12 : SlB (rmG A2 G3) A1 c1 bs := Sl.back (G1 := G2) hs10 (ghe2 hg2 hg3) hf2
  generalize rmG A2 G3 = G8 at hs11 hs12 ⊢
  clear hs9 hs10 hg2 hg3 hf2 hin2 hsl2 G2 G3 A2 c2
  refine ⟨⟨by omega, by omega⟩, fun A3 hA3 => ?_⟩
  rw [Int.toNat_natCast] at hA3 ⊢
  have hs13 := slB_drop hs11 m hmb hA3
  repeat' ((fail_if_success with_reducible refine Stop.mk ?_); (conv => whnf); with_reducible first | refine br_t ?_ | refine br_f ?_ | refine br_nn ?_ | refine br_ns ?_ | refine br_not ?_ | refine br_d (fun h => ?_) (fun h => ?_) | refine br_e (fun h => ?_) (fun h => ?_) | refine br_n (fun h => ?_) (fun h => ?_) | refine drw (by kernel_rfl) ?_ | refine chk (by kernel_rfl) ?_ | refine stop ?_)
  all_goals refine Stop.mk ?_
  rw [show IntKind.i64.wrap ((bs.length : Int) - (m : Int)) = ((bs.length - m : Nat) : Int) by rw [i64_in (by omega) (by omega)]; omega]
  refine call_fn [1] (byteso_fn _ A1 bs c1 (0 + m) (bs.length - m) hs12 (by omega) (by omega)) rfl ⟨rfl, trivial⟩ (by decide) ?_
  rintro sv H' G' ⟨rfl, rfl, rfl⟩ -
  refine ⟨Nat.le_of_ble_eq_true rfl, ?_⟩
  rw [show (bs.drop (0 + m)).take (bs.length - m) = bs.drop m by rw [Nat.zero_add, List.take_of_length_le (by simp)]]
  repeat' ((fail_if_success with_reducible refine Stop.mk ?_); (conv => whnf); with_reducible first | refine br_t ?_ | refine br_f ?_ | refine br_nn ?_ | refine br_ns ?_ | refine br_not ?_ | refine br_d (fun h => ?_) (fun h => ?_) | refine br_e (fun h => ?_) (fun h => ?_) | refine br_n (fun h => ?_) (fun h => ?_) | refine drw (by kernel_rfl) ?_ | refine chk (by kernel_rfl) ?_ | refine stop ?_)
  all_goals refine Stop.mk ?_
  refine call_lend 7 [] rfl (byts_one _) rfl List.nodup_nil (same_fn G none none 0 0 [] [] (slB_nil _) (slB_nil _)).enters ?_
  intro A2 c2 G2 hg2 hf2 hin2 hsl2
  refine ⟨_, [], _, rfl, trivial, sameN_fn G2 A2 A3 c2 (c - m) (bs.drop m) (bs.drop m) _ (bs.length - m) rfl (by simp) hsl2 (Sl.to hg2 (by have h := hs13; unfold SlB at h; rw [List.length_drop] at h; exact h)), ?_⟩
  rintro sv H' G3 ⟨rfl, rfl, -⟩ hg3
  refine ⟨by simp, ?_⟩
  rw [show decide (bs.drop m = bs.drop m) = true by simp]
  repeat' ((fail_if_success with_reducible refine Stop.mk ?_); (conv => whnf); with_reducible first | refine br_t ?_ | refine br_f ?_ | refine br_nn ?_ | refine br_ns ?_ | refine br_not ?_ | refine br_d (fun h => ?_) (fun h => ?_) | refine br_e (fun h => ?_) (fun h => ?_) | refine br_n (fun h => ?_) (fun h => ?_) | refine drw (by kernel_rfl) ?_ | refine chk (by kernel_rfl) ?_ | refine stop ?_)
  all_goals refine Stop.mk ?_
  exact fin_id hE 0 rfl rfl rfl rfl ⟨rfl, rfl⟩
end Go.Proofs.Ytbggecnabbnkdaa.Cu
