/- The law: each read is the reference's. -/
import Derived.Test.YtihnbkoeaaepiaaCuE
import Derived.Test.YtihnbkoeaaepiaaSXK
namespace Go.Proofs.Ytihnbkoeaaepiaa.Cu
open Go Go.SX Go.Proofs.Ytihnbkoeaaepiaa.VT
set_option maxRecDepth 100000
set_option linter.unusedVariables false
set_option linter.unusedSimpArgs false
theorem rdS_at (bs : List Int) (a : Nat) (e : Int) (r : Rd) (hb : isB bs) (ha : a ≤ bs.length) (hr : r.ok) : (rdS bs a e r).at_ ≤ bs.length := by
  have h1 : (cByte bs a e).2.1 ≤ bs.length := by
    unfold cByte; repeat' split
    all_goals simp only; omega
  have h2 : ∀ m, (cUint bs a e m).2.1 ≤ bs.length := by
    intro m
    have hl : (bs.drop a).length = bs.length - a := by simp
    unfold cUint
    rcases vdec_form (isB_drop hb a) with ⟨x, hx, h⟩ | ⟨n, k, h, h3, h4, h5, _⟩ <;> rw [h] <;> (repeat' split) <;> simp <;> omega
  have h3 : ∀ m z, (cCount bs a e m z).2.1 ≤ bs.length := by
    intro m z
    have hl : (bs.drop a).length = bs.length - a := by simp
    unfold cCount
    rcases resC_form (isB_drop hb a) m z with ⟨x, hx, h⟩ | ⟨n, k, _, _, h, _, h1, _, h2, _⟩ <;> rw [h] <;> split <;> simp <;> omega
  have h4 : ∀ n, (cBytes bs a e n).2.1 ≤ bs.length := by
    intro n
    unfold cBytes; repeat' split
    all_goals simp only; omega
  unfold rdS
  repeat' split
  all_goals first | exact h1 | exact h2 _ | exact h3 _ _ | exact h4 _ | exact ha
set_option maxHeartbeats 8000000 in
theorem matches_fn (G : Gh) (A B : Option Addr) (c d : Nat) (bs : List Int) (rs : List Rd) (hb : isB bs) (hs : SlB G A c bs) (hrs : SlR G B d rs) (hrk : ∀ r ∈ rs, r.ok) :
    Ct Try.prog 5 [.v (.slice A bs.length c), .v (.slice B rs.length d)] [] G fun sv H' G' => sv = .v (.bool true) ∧ H' = [] := by
  have htop := hs.top
  have hcap := hs.cap
  have htop2 := hrs.top
  have hcap2 := hrs.cap
  refine fn_of follows [(12, ([(0, []), (1, []), (2, []), (3, []), (4, [])], [[(5, []), (6, []), (7, []), (8, []), (9, []), (10, []), (11, []), (12, []), (13, [])], [(10, []), (5, []), (6, []), (7, []), (8, []), (9, []), (11, []), (12, []), (13, [])]])), (17, ([(0, []), (1, []), (2, []), (3, []), (4, []), (5, []), (6, []), (7, []), (8, []), (9, []), (10, []), (12, []), (13, []), (11, []), (14, []), (15, []), (16, []), (17, []), (19, []), (20, []), (18, [13]), (21, []), (22, []), (23, []), (24, []), (26, []), (25, [13, 20]), (27, []), (28, [])], []))] Try.func5 rfl rfl fun E hE => ?_
  repeat' ((fail_if_success with_reducible refine Stop.mk ?_); (conv => whnf); with_reducible first | refine br_t ?_ | refine br_f ?_ | refine br_nn ?_ | refine br_ns ?_ | refine br_not ?_ | refine br_d (fun h => ?_) (fun h => ?_) | refine br_e (fun h => ?_) (fun h => ?_) | refine br_n (fun h => ?_) (fun h => ?_) | refine drw (by kernel_rfl) ?_ | refine chk (by kernel_rfl) ?_ | refine stop ?_)
  all_goals refine Stop.mk ?_
  refine call_fn [] (awake_fn G) rfl trivial (by decide) ?_
  rintro sv H' G' ⟨rfl, rfl⟩ hg
  replace hs := hs.to hg
  replace hrs := hrs.to hg
  clear hg
  refine ⟨by simp, ?_⟩
  repeat' ((fail_if_success with_reducible refine Stop.mk ?_); (conv => whnf); with_reducible first | refine br_t ?_ | refine br_f ?_ | refine br_nn ?_ | refine br_ns ?_ | refine br_not ?_ | refine br_d (fun h => ?_) (fun h => ?_) | refine br_e (fun h => ?_) (fun h => ?_) | refine br_n (fun h => ?_) (fun h => ?_) | refine drw (by kernel_rfl) ?_ | refine chk (by kernel_rfl) ?_ | refine stop ?_)
  all_goals refine Stop.mk ?_
  · refine call_fn [] (awake_fn _) rfl trivial (by decide) ?_
    rintro sv H' G' ⟨rfl, rfl⟩ -
    refine ⟨by simp, ?_⟩
    repeat' ((fail_if_success with_reducible refine Stop.mk ?_); (conv => whnf); with_reducible first | refine br_t ?_ | refine br_f ?_ | refine br_nn ?_ | refine br_ns ?_ | refine br_not ?_ | refine br_d (fun h => ?_) (fun h => ?_) | refine br_e (fun h => ?_) (fun h => ?_) | refine br_n (fun h => ?_) (fun h => ?_) | refine drw (by kernel_rfl) ?_ | refine chk (by kernel_rfl) ?_ | refine stop ?_)
    all_goals refine Stop.mk ?_
    exact fin_all ⟨rfl, rfl⟩
  · refine call_fn [] (awake_fn _) rfl trivial (by decide) ?_
    rintro sv H' G' ⟨rfl, rfl⟩ -
    refine ⟨by simp, ?_⟩
    repeat' ((fail_if_success with_reducible refine Stop.mk ?_); (conv => whnf); with_reducible first | refine br_t ?_ | refine br_f ?_ | refine br_nn ?_ | refine br_ns ?_ | refine br_not ?_ | refine br_d (fun h => ?_) (fun h => ?_) | refine br_e (fun h => ?_) (fun h => ?_) | refine br_n (fun h => ?_) (fun h => ?_) | refine drw (by kernel_rfl) ?_ | refine chk (by kernel_rfl) ?_ | refine stop ?_)
    all_goals refine Stop.mk ?_
    exact fin_all ⟨rfl, rfl⟩
  refine call_fn [] (new_fn _ A bs c hs (by omega)) rfl trivial (by decide) ?_
  rintro sv H' G' ⟨A1, c1, rfl, rfl, hs1⟩ hg
  replace hrs := hrs.to hg
  replace hs := hs.to hg
  clear hg
  refine ⟨by simp, ?_⟩
  have htop1 := hs1.top
  have hcap1 := hs1.cap
  repeat' ((fail_if_success with_reducible refine Stop.mk ?_); (conv => whnf); with_reducible first | refine br_t ?_ | refine br_f ?_ | refine br_nn ?_ | refine br_ns ?_ | refine br_not ?_ | refine br_d (fun h => ?_) (fun h => ?_) | refine br_e (fun h => ?_) (fun h => ?_) | refine br_n (fun h => ?_) (fun h => ?_) | refine drw (by kernel_rfl) ?_ | refine chk (by kernel_rfl) ?_ | refine stop ?_)
  all_goals refine Stop.mk ?_
  refine ⟨_, hs, ⟨by show (0 + bs.length) * 1 ≤ _; omega, ?_⟩⟩
  repeat' ((fail_if_success with_reducible refine Stop.mk ?_); (conv => whnf); with_reducible first | refine br_t ?_ | refine br_f ?_ | refine br_nn ?_ | refine br_ns ?_ | refine br_not ?_ | refine br_d (fun h => ?_) (fun h => ?_) | refine br_e (fun h => ?_) (fun h => ?_) | refine br_n (fun h => ?_) (fun h => ?_) | refine drw (by kernel_rfl) ?_ | refine chk (by kernel_rfl) ?_ | refine stop ?_)
  all_goals refine Stop.mk ?_
  refine loop_gh (gh_done 1 rfl (by simp only [List.nil_append]; exact byts_one _)) ?_
  rintro g s' ⟨A2, c2, G2, hg, hs2, rfl, rfl⟩
  replace hs2 := SlB.of bs hs2 (by simp) rfl (by simp)
  replace hs1 := hs1.to hg
  replace hrs := hrs.to hg
  clear hg hs
  refine loop_vars follows [(12, ([(0, []), (1, []), (2, []), (3, []), (4, [])], [[(5, []), (6, []), (7, []), (8, []), (9, []), (10, []), (11, []), (12, []), (13, [])], [(10, []), (5, []), (6, []), (7, []), (8, []), (9, []), (11, []), (12, []), (13, [])]])), (17, ([(0, []), (1, []), (2, []), (3, []), (4, []), (5, []), (6, []), (7, []), (8, []), (9, []), (10, []), (12, []), (13, []), (11, []), (14, []), (15, []), (16, []), (17, []), (19, []), (20, []), (18, [13]), (21, []), (22, []), (23, []), (24, []), (26, []), (25, [13, 20]), (27, []), (28, [])], []))] (α := Nat × Nat × Int × Gh) (fun x => [(7, .v (.int .i64 x.1))])
    (fun x => [curO A1 bs.length c1 x.2.1 x.2.2.1, .gone, .cells 42 [.v (.slice A2 bs.length c2), .v (.int .i64 x.2.1), .v (.int .i64 x.2.2.1)]]) (fun x => x.2.2.2)
    (fun x => x.1 ≤ rs.length ∧ x.2.1 ≤ bs.length ∧ SlB x.2.2.2 A1 c1 bs ∧ SlB x.2.2.2 A2 c2 bs ∧ SlR x.2.2.2 B d rs) (fun x => rs.length - x.1) (0, 0, 0, G2) ⟨Nat.zero_le _, Nat.zero_le _, hs1, hs2, hrs⟩ ?_ rfl ?_ ?_
  · show [_, _, _] = [_, _, _]
    simp only [Nat.zero_add]
    rfl
  ·
    refine ⟨?_⟩
    (conv => whnf)
    (repeat' (first | exact trivial | exact .inl rfl | exact .inr rfl | refine And.intro ?_ ?_))
  clear hs1 hs2 hrs
  rintro ⟨k, a, e, Gk⟩ ⟨hk, ha, hs1, hs2, hrs⟩
  dsimp only at hk ha hs1 hs2 hrs
  dsimp only
  have hw2 : IntKind.i64.wrap ((k : Int) + 1) = ((k + 1 : Nat) : Int) := by rw [i64_in (by omega) (by omega)]; simp
  repeat' ((fail_if_success with_reducible refine Stop.mk ?_); (conv => whnf); with_reducible first | refine br_t ?_ | refine br_f ?_ | refine br_nn ?_ | refine br_ns ?_ | refine br_not ?_ | refine br_d (fun h => ?_) (fun h => ?_) | refine br_e (fun h => ?_) (fun h => ?_) | refine br_n (fun h => ?_) (fun h => ?_) | refine drw (by kernel_rfl) ?_ | refine chk (by kernel_rfl) ?_ | refine stop ?_)
  all_goals refine Stop.mk ?_
  rotate_left
  · exact fin_id hE 0 rfl rfl rfl rfl ⟨rfl, rfl⟩
  refine ⟨⟨by omega, by omega⟩, _, hrs, fun ad had => ?_⟩
  rw [Int.toNat_natCast] at had
  have hel := elR had (by omega)
  clear had
  have hok := hrk rs[k] (List.getElem_mem (by omega))
  generalize hrk' : rs[k] = r at hel hok
  repeat' ((fail_if_success with_reducible refine Stop.mk ?_); (conv => whnf); with_reducible first | refine br_t ?_ | refine br_f ?_ | refine br_nn ?_ | refine br_ns ?_ | refine br_not ?_ | refine br_d (fun h => ?_) (fun h => ?_) | refine br_e (fun h => ?_) (fun h => ?_) | refine br_n (fun h => ?_) (fun h => ?_) | refine drw (by kernel_rfl) ?_ | refine chk (by kernel_rfl) ?_ | refine stop ?_)
  all_goals refine Stop.mk ?_
  refine ⟨_, hel 0 _ rfl, ?_⟩
  repeat' ((fail_if_success with_reducible refine Stop.mk ?_); (conv => whnf); with_reducible first | refine br_t ?_ | refine br_f ?_ | refine br_nn ?_ | refine br_ns ?_ | refine br_not ?_ | refine br_d (fun h => ?_) (fun h => ?_) | refine br_e (fun h => ?_) (fun h => ?_) | refine br_n (fun h => ?_) (fun h => ?_) | refine drw (by kernel_rfl) ?_ | refine chk (by kernel_rfl) ?_ | refine stop ?_)
  all_goals refine Stop.mk ?_
  · rw [hw2]
    refine tell_here ⟨(k + 1, a, e, Gk), ⟨by show k + 1 ≤ _; omega, ha, hs1, hs2, hrs⟩, by show rs.length - (k + 1) < rs.length - k; omega, rfl, rfl, ?_⟩
    refine ⟨?_⟩
    (conv => whnf)
    (repeat' (first | exact trivial | exact .inl rfl | exact .inr rfl | refine And.intro ?_ ?_))
  refine ⟨⟨by omega, by omega⟩, _, hrs, fun ad2 had2 => ?_⟩
  rw [Int.toNat_natCast] at had2
  have hel2 := elR had2 (by omega)
  rw [hrk'] at hel2
  clear had2
  repeat' ((fail_if_success with_reducible refine Stop.mk ?_); (conv => whnf); with_reducible first | refine br_t ?_ | refine br_f ?_ | refine br_nn ?_ | refine br_ns ?_ | refine br_not ?_ | refine br_d (fun h => ?_) (fun h => ?_) | refine br_e (fun h => ?_) (fun h => ?_) | refine br_n (fun h => ?_) (fun h => ?_) | refine drw (by kernel_rfl) ?_ | refine chk (by kernel_rfl) ?_ | refine stop ?_)
  all_goals refine Stop.mk ?_
  refine ⟨_, hel2 0 _ rfl, ?_⟩
  repeat' ((fail_if_success with_reducible refine Stop.mk ?_); (conv => whnf); with_reducible first | refine br_t ?_ | refine br_f ?_ | refine br_nn ?_ | refine br_ns ?_ | refine br_not ?_ | refine br_d (fun h => ?_) (fun h => ?_) | refine br_e (fun h => ?_) (fun h => ?_) | refine br_n (fun h => ?_) (fun h => ?_) | refine drw (by kernel_rfl) ?_ | refine chk (by kernel_rfl) ?_ | refine stop ?_)
  all_goals refine Stop.mk ?_
  · rw [hw2]
    refine tell_here ⟨(k + 1, a, e, Gk), ⟨by show k + 1 ≤ _; omega, ha, hs1, hs2, hrs⟩, by show rs.length - (k + 1) < rs.length - k; omega, rfl, rfl, ?_⟩
    refine ⟨?_⟩
    (conv => whnf)
    (repeat' (first | exact trivial | exact .inl rfl | exact .inr rfl | refine And.intro ?_ ?_))
  refine ⟨⟨by omega, by omega⟩, _, hrs, fun ad3 had3 => ?_⟩
  rw [Int.toNat_natCast] at had3
  have hel3 := elR had3 (by omega)
  rw [hrk'] at hel3
  clear had3
  repeat' ((fail_if_success with_reducible refine Stop.mk ?_); (conv => whnf); with_reducible first | refine br_t ?_ | refine br_f ?_ | refine br_nn ?_ | refine br_ns ?_ | refine br_not ?_ | refine br_d (fun h => ?_) (fun h => ?_) | refine br_e (fun h => ?_) (fun h => ?_) | refine br_n (fun h => ?_) (fun h => ?_) | refine drw (by kernel_rfl) ?_ | refine chk (by kernel_rfl) ?_ | refine stop ?_)
  all_goals refine Stop.mk ?_
  refine ⟨r.vals, rfl, hel3, ?_⟩
  repeat' ((fail_if_success with_reducible refine Stop.mk ?_); (conv => whnf); with_reducible first | refine br_t ?_ | refine br_f ?_ | refine br_nn ?_ | refine br_ns ?_ | refine br_not ?_ | refine br_d (fun h => ?_) (fun h => ?_) | refine br_e (fun h => ?_) (fun h => ?_) | refine br_n (fun h => ?_) (fun h => ?_) | refine drw (by kernel_rfl) ?_ | refine chk (by kernel_rfl) ?_ | refine stop ?_)
  all_goals refine Stop.mk ?_
  refine call_fn [0] (read_fn _ A1 bs c1 a e r hb hs1 ha (by omega) hok) rfl ⟨rfl, trivial⟩ (by decide) ?_
  intro sv H' G' hp hg
  obtain ⟨⟨A3, c3, rfl, hs3⟩, rfl⟩ := hp
  replace hs1 := hs1.to hg
  replace hs2 := hs2.to hg
  replace hrs := hrs.to hg
  clear hg
  refine ⟨by simp, ?_⟩
  repeat' ((fail_if_success with_reducible refine Stop.mk ?_); (conv => whnf); with_reducible first | refine br_t ?_ | refine br_f ?_ | refine br_nn ?_ | refine br_ns ?_ | refine br_not ?_ | refine br_d (fun h => ?_) (fun h => ?_) | refine br_e (fun h => ?_) (fun h => ?_) | refine br_n (fun h => ?_) (fun h => ?_) | refine drw (by kernel_rfl) ?_ | refine chk (by kernel_rfl) ?_ | refine stop ?_)
  all_goals refine Stop.mk ?_
  refine ⟨⟨by omega, by omega⟩, _, hrs, fun ad4 had4 => ?_⟩
  rw [Int.toNat_natCast] at had4
  have hel4 := elR had4 (by omega)
  rw [hrk'] at hel4
  clear had4
  repeat' ((fail_if_success with_reducible refine Stop.mk ?_); (conv => whnf); with_reducible first | refine br_t ?_ | refine br_f ?_ | refine br_nn ?_ | refine br_ns ?_ | refine br_not ?_ | refine br_d (fun h => ?_) (fun h => ?_) | refine br_e (fun h => ?_) (fun h => ?_) | refine br_n (fun h => ?_) (fun h => ?_) | refine drw (by kernel_rfl) ?_ | refine chk (by kernel_rfl) ?_ | refine stop ?_)
  all_goals refine Stop.mk ?_
  refine ⟨r.vals, rfl, hel4, ?_⟩
  repeat' ((fail_if_success with_reducible refine Stop.mk ?_); (conv => whnf); with_reducible first | refine br_t ?_ | refine br_f ?_ | refine br_nn ?_ | refine br_ns ?_ | refine br_not ?_ | refine br_d (fun h => ?_) (fun h => ?_) | refine br_e (fun h => ?_) (fun h => ?_) | refine br_n (fun h => ?_) (fun h => ?_) | refine drw (by kernel_rfl) ?_ | refine chk (by kernel_rfl) ?_ | refine stop ?_)
  all_goals refine Stop.mk ?_
  have hat := rdS_at bs a e r hb ha hok
  refine ⟨?_, ?_⟩
  all_goals
    repeat' ((fail_if_success with_reducible refine Stop.mk ?_); (conv => whnf); with_reducible first | refine br_t ?_ | refine br_f ?_ | refine br_nn ?_ | refine br_ns ?_ | refine br_not ?_ | refine br_d (fun h => ?_) (fun h => ?_) | refine br_e (fun h => ?_) (fun h => ?_) | refine br_n (fun h => ?_) (fun h => ?_) | refine drw (by kernel_rfl) ?_ | refine chk (by kernel_rfl) ?_ | refine stop ?_)
    all_goals refine Stop.mk ?_
    refine call_fn [] (do_fn _ A2 bs c2 a e r hb hs2 ha hok (by omega)) rfl trivial (by decide) ?_
    rintro sv H' G2 ⟨⟨A4, c4, rfl, hs4⟩, rfl, rfl⟩ -
    refine ⟨by simp, ?_⟩
    generalize rdS bs a e r = q at *
    repeat' ((fail_if_success with_reducible refine Stop.mk ?_); (conv => whnf); with_reducible first | refine br_t ?_ | refine br_f ?_ | refine br_nn ?_ | refine br_ns ?_ | refine br_not ?_ | refine br_d (fun h => ?_) (fun h => ?_) | refine br_e (fun h => ?_) (fun h => ?_) | refine br_n (fun h => ?_) (fun h => ?_) | refine drw (by kernel_rfl) ?_ | refine chk (by kernel_rfl) ?_ | refine stop ?_)
    all_goals refine Stop.mk ?_
  all_goals try (exfalso; omega)
  all_goals
    refine call_fn [] (same_fn _ A3 A4 c3 c4 q.x q.x hs3 hs4) rfl trivial (by decide) ?_
    rintro sv H' G2 ⟨rfl, rfl, rfl⟩ -
    rw [show decide (q.x = q.x) = true from decide_eq_true rfl]
    refine ⟨by simp, ?_⟩
    repeat' ((fail_if_success with_reducible refine Stop.mk ?_); (conv => whnf); with_reducible first | refine br_t ?_ | refine br_f ?_ | refine br_nn ?_ | refine br_ns ?_ | refine br_not ?_ | refine br_d (fun h => ?_) (fun h => ?_) | refine br_e (fun h => ?_) (fun h => ?_) | refine br_n (fun h => ?_) (fun h => ?_) | refine drw (by kernel_rfl) ?_ | refine chk (by kernel_rfl) ?_ | refine stop ?_)
    all_goals refine Stop.mk ?_
    refine call_fn [0] (at_fn _ A1 bs.length c1 q.at_ q.e) rfl ⟨rfl, trivial⟩ (by decide) ?_
    rintro sv H' G2 ⟨rfl, rfl, rfl⟩ -
    refine ⟨by simp, ?_⟩
    repeat' ((fail_if_success with_reducible refine Stop.mk ?_); (conv => whnf); with_reducible first | refine br_t ?_ | refine br_f ?_ | refine br_nn ?_ | refine br_ns ?_ | refine br_not ?_ | refine br_d (fun h => ?_) (fun h => ?_) | refine br_e (fun h => ?_) (fun h => ?_) | refine br_n (fun h => ?_) (fun h => ?_) | refine drw (by kernel_rfl) ?_ | refine chk (by kernel_rfl) ?_ | refine stop ?_)
    all_goals refine Stop.mk ?_
  all_goals try (exfalso; omega)
  all_goals
    refine call_fn [0] (err_fn _ A1 bs.length c1 q.at_ q.e) rfl ⟨rfl, trivial⟩ (by decide) ?_
    rintro sv H' G2 ⟨rfl, rfl, rfl⟩ -
    refine ⟨by simp, ?_⟩
    repeat' ((fail_if_success with_reducible refine Stop.mk ?_); (conv => whnf); with_reducible first | refine br_t ?_ | refine br_f ?_ | refine br_nn ?_ | refine br_ns ?_ | refine br_not ?_ | refine br_d (fun h => ?_) (fun h => ?_) | refine br_e (fun h => ?_) (fun h => ?_) | refine br_n (fun h => ?_) (fun h => ?_) | refine drw (by kernel_rfl) ?_ | refine chk (by kernel_rfl) ?_ | refine stop ?_)
    all_goals refine Stop.mk ?_
  all_goals try (exfalso; omega)
  all_goals
    refine call_fn [0] (left_fn _ A1 bs.length c1 q.at_ q.e (by omega) (by omega) (by omega)) rfl ⟨rfl, trivial⟩ (by decide) ?_
    rintro sv H' G2 ⟨rfl, rfl, rfl⟩ -
    unfold leftN
    first | rw [if_pos (by assumption)] | rw [if_neg (by assumption)]
    first | rw [show IntKind.i64.wrap ((bs.length : Int) - (q.at_ : Int)) = bs.length - q.at_ from i64_in (by omega) (by omega)] | skip
    refine ⟨by simp, ?_⟩
    repeat' ((fail_if_success with_reducible refine Stop.mk ?_); (conv => whnf); with_reducible first | refine br_t ?_ | refine br_f ?_ | refine br_nn ?_ | refine br_ns ?_ | refine br_not ?_ | refine br_d (fun h => ?_) (fun h => ?_) | refine br_e (fun h => ?_) (fun h => ?_) | refine br_n (fun h => ?_) (fun h => ?_) | refine drw (by kernel_rfl) ?_ | refine chk (by kernel_rfl) ?_ | refine stop ?_)
    all_goals refine Stop.mk ?_
  all_goals try (exfalso; omega)
  all_goals
    rw [hw2]
    refine tell_gc hE [0, 1, 2] rfl rfl ?_
    (conv => whnf)
    refine tell_here ⟨(k + 1, q.at_, q.e, _), ⟨by show k + 1 ≤ _; omega, hat, hs1, hs2, hrs⟩, by show rs.length - (k + 1) < rs.length - k; omega, rfl, rfl, ?_⟩
    refine ⟨?_⟩
    (conv => whnf)
    (repeat' (first | exact trivial | exact .inl rfl | exact .inr rfl | refine And.intro ?_ ?_))
end Go.Proofs.Ytihnbkoeaaepiaa.Cu
