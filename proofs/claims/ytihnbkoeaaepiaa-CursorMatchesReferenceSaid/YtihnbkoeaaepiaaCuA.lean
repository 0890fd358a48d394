/- The law of the stop. -/
import Derived.Test.YtihnbkoeaaepiaaCu9
namespace Go.Proofs.Ytihnbkoeaaepiaa.Cu
open Go Go.SX Go.Proofs.Ytihnbkoeaaepiaa.VT
set_option maxRecDepth 100000
set_option linter.unusedVariables false
set_option linter.unusedSimpArgs false

def rdV (rs : List Rd) : List Value := rs.flatMap Rd.vals
theorem rdV_len (rs : List Rd) : (rdV rs).length = rs.length * 4 := by
  induction rs with
  | nil => rfl
  | cons r rs ih => simp only [rdV, List.flatMap_cons, List.length_append, List.length_cons] at ih ⊢; rw [ih]; simp [Rd.vals]; omega
theorem rdV_at : ∀ (rs : List Rd) (i : Nat) (h : i < rs.length), ((rdV rs).drop (i * 4)).take 4 = rs[i].vals
  | r :: rs, 0, _ => by simp [rdV, Rd.vals]
  | r :: rs, i + 1, h => by
    have ih := rdV_at rs i (by simpa using h)
    rw [show (i + 1) * 4 = 4 + i * 4 by omega, ← List.drop_drop]
    simpa [rdV, Rd.vals] using ih
theorem rdV_one (rs : List Rd) : ∀ v ∈ rdV rs, v.oneCell' = true := by
  intro v hv
  obtain ⟨r, _, h⟩ := List.mem_flatMap.1 hv
  simp [Rd.vals] at h
  rcases h with rfl | rfl | rfl | rfl <;> rfl
/-- A slice of reads that nobody changes. -/
abbrev SlR (G : Gh) (A : Option Addr) (c : Nat) (rs : List Rd) : Prop := Sl G A rs.length c 4 (rdV rs)
theorem SlR.to {G G' : Gh} {A : Option Addr} {c : Nat} {l : List Rd} (h : SlR G A c l) (hg : Ghe G G') : SlR G' A c l :=
  ⟨h.len, h.cap, h.top, fun ad had j v hj => by
    have := h.there ad had j v hj
    unfold Gcell at this ⊢
    split at this <;> rename_i hx
    · rw [hg _ _ hx]; exact this
    · simp at this, h.nil, h.ones⟩
theorem elR {G : Gh} {ad : Addr} {rs : List Rd} {i : Nat} (h : Gat G ad (((rdV rs).drop (i * 4)).take 4)) (hi : i < rs.length) : Gat G ad rs[i].vals := by rwa [rdV_at rs i hi] at h
theorem rdS_err (bs : List Int) (a : Nat) (e : Int) (r : Rd) (he : e ≠ 0) : rdS bs a e r = ⟨0, [], a, e⟩ := by
  have h1 : cByte bs a e = (0, a, e) := if_pos he
  have h2 : ∀ m, cUint bs a e m = (0, a, e) := fun m => if_pos he
  have h3 : ∀ m z, cCount bs a e m z = (0, a, e) := fun m z => if_pos he
  have h4 : ∀ n, cBytes bs a e n = ([], a, e) := fun n => if_pos he
  have h5 : leftN bs.length a e = 0 := if_neg he
  have h6 : failE e r.a = e := if_neg he
  unfold rdS
  rw [h1, h2, h2, h3, h4, h5, h6]
  have h7 : IntKind.u64.wrap (unzig 0) = 0 := by decide
  simp only [h7]
  repeat' split
  all_goals first | rfl | (exfalso; omega)
set_option maxHeartbeats 8000000 in
theorem stops_fn (G : Gh) (A B : Option Addr) (c d : Nat) (bs : List Int) (e : Int) (rs : List Rd) (hb : isB bs) (hs : SlB G A c bs) (he0 : 0 ≤ e) (he : e < 256) (hrs : SlR G B d rs) (hrk : ∀ r ∈ rs, r.ok) :
    Ct Try.prog 6 [.v (.slice A bs.length c), .v (.int .u8 e), .v (.slice B rs.length d)] [] G fun sv H' G' => sv = .v (.bool true) ∧ H' = [] := by
  have htop := hs.top
  have hcap := hs.cap
  have htop2 := hrs.top
  have hcap2 := hrs.cap
  refine fn_of follows [] Try.func6 rfl rfl fun E hE => ?_
  repeat' ((fail_if_success with_reducible refine Stop.mk ?_); (conv => whnf); with_reducible first | refine br_t ?_ | refine br_f ?_ | refine br_nn ?_ | refine br_ns ?_ | refine br_not ?_ | refine br_d (fun h => ?_) (fun h => ?_) | refine br_e (fun h => ?_) (fun h => ?_) | refine br_n (fun h => ?_) (fun h => ?_) | refine drw (by kernel_rfl) ?_ | refine chk (by kernel_rfl) ?_ | refine stop ?_)
  all_goals refine Stop.mk ?_
  refine call_fn [] (awake_fn G) rfl trivial (by decide) ?_
  rintro sv H' G' ⟨rfl, rfl⟩ hg
  replace hs := hs.to hg
  replace hrs := hrs.to hg
  clear hg
  refine ⟨by simp, ?_⟩
  repeat' ((fail_if_success with_reducible refine Stop.mk ?_); (conv => whnf); with_reducible first | refine br_t ?_ | refine br_f ?_ | refine br_nn ?_ | refine br_ns ?_ | refine br_not ?_ | refine br_d (fun h => ?_) (fun h => ?_) | refine br_e (fun h => ?_) (fun h => ?_) | refine br_n (fun h => ?_) (fun h => ?_) | refine drw (by kernel_rfl) ?_ | refine chk (by kernel_rfl) ?_ | refine stop ?_)
  all_goals refine Stop.mk ?_
  · refine call_fn [] (awake_fn _) rfl trivial (by decide) ?_
    rintro sv H' G' ⟨rfl, rfl⟩ -
    refine ⟨by simp, ?_⟩
    repeat' ((fail_if_success with_reducible refine Stop.mk ?_); (conv => whnf); with_reducible first | refine br_t ?_ | refine br_f ?_ | refine br_nn ?_ | refine br_ns ?_ | refine br_not ?_ | refine br_d (fun h => ?_) (fun h => ?_) | refine br_e (fun h => ?_) (fun h => ?_) | refine br_n (fun h => ?_) (fun h => ?_) | refine drw (by kernel_rfl) ?_ | refine chk (by kernel_rfl) ?_ | refine stop ?_)
    all_goals refine Stop.mk ?_
    exact fin_all ⟨rfl, rfl⟩
  · refine call_fn [] (awake_fn _) rfl trivial (by decide) ?_
    rintro sv H' G' ⟨rfl, rfl⟩ -
    refine ⟨by simp, ?_⟩
    repeat' ((fail_if_success with_reducible refine Stop.mk ?_); (conv => whnf); with_reducible first | refine br_t ?_ | refine br_f ?_ | refine br_nn ?_ | refine br_ns ?_ | refine br_not ?_ | refine br_d (fun h => ?_) (fun h => ?_) | refine br_e (fun h => ?_) (fun h => ?_) | refine br_n (fun h => ?_) (fun h => ?_) | refine drw (by kernel_rfl) ?_ | refine chk (by kernel_rfl) ?_ | refine stop ?_)
    all_goals refine Stop.mk ?_
    exact fin_all ⟨rfl, rfl⟩
  refine call_fn [] (new_fn _ A bs c hs (by omega)) rfl trivial (by decide) ?_
  rintro sv H' G' ⟨A1, c1, rfl, rfl, hs1⟩ hg
  replace hrs := hrs.to hg
  clear hg
  refine ⟨by simp, ?_⟩
  clear hs htop hcap
  have htop := hs1.top
  have hcap := hs1.cap
  repeat' ((fail_if_success with_reducible refine Stop.mk ?_); (conv => whnf); with_reducible first | refine br_t ?_ | refine br_f ?_ | refine br_nn ?_ | refine br_ns ?_ | refine br_not ?_ | refine br_d (fun h => ?_) (fun h => ?_) | refine br_e (fun h => ?_) (fun h => ?_) | refine br_n (fun h => ?_) (fun h => ?_) | refine drw (by kernel_rfl) ?_ | refine chk (by kernel_rfl) ?_ | refine stop ?_)
  all_goals refine Stop.mk ?_
  obtain ⟨w, hw, hw1⟩ : ∃ w : Int, IntKind.i64.wrap (1 + (IntKind.i64.wrap e).tmod 40) = w ∧ 1 ≤ w ∧ w ≤ 40 := by
    refine ⟨_, rfl, ?_⟩
    rw [i64_in (n := e) (by omega) (by omega), Int.tmod_eq_emod_of_nonneg (by omega), i64_in (by omega) (by omega)]
    omega
  rw [hw]
  obtain ⟨x, a2, e0, hcb, ha2, hor⟩ : ∃ x a2 e0, cByte bs 0 0 = (x, a2, e0) ∧ a2 ≤ bs.length ∧ ((bs.length = 0 ∧ e0 = 1) ∨ (bs.length > 0 ∧ e0 = 0)) := by
    unfold cByte
    rw [if_neg (by decide)]
    by_cases h0 : bs.length = 0
    · rw [if_pos h0]; exact ⟨_, _, _, rfl, by omega, .inl ⟨h0, rfl⟩⟩
    · rw [if_neg h0]; exact ⟨_, _, _, rfl, by omega, .inr ⟨by omega, rfl⟩⟩
  obtain ⟨e2, he2, hne, hl0, hl1⟩ : ∃ e2, failE e0 w = e2 ∧ e2 ≠ 0 ∧ (bs.length = 0 → e2 = 1) ∧ (bs.length > 0 → e2 = w) := by
    refine ⟨_, rfl, ?_⟩
    unfold failE
    rcases hor with ⟨h1, h2⟩ | ⟨h1, h2⟩
    · rw [if_neg (by omega)]; omega
    · rw [if_pos h2]; omega
  refine call_fn [0] (byte_fn _ A1 bs c1 0 0 hb hs1 (by omega)) rfl ⟨rfl, trivial⟩ (by decide) ?_
  rintro sv H' G' ⟨rfl, rfl, rfl⟩ -
  rw [hcb]
  refine ⟨by simp, ?_⟩
  repeat' ((fail_if_success with_reducible refine Stop.mk ?_); (conv => whnf); with_reducible first | refine br_t ?_ | refine br_f ?_ | refine br_nn ?_ | refine br_ns ?_ | refine br_not ?_ | refine br_d (fun h => ?_) (fun h => ?_) | refine br_e (fun h => ?_) (fun h => ?_) | refine br_n (fun h => ?_) (fun h => ?_) | refine drw (by kernel_rfl) ?_ | refine chk (by kernel_rfl) ?_ | refine stop ?_)
  all_goals refine Stop.mk ?_
  refine call_fn [0] (fail_fn _ A1 bs.length c1 a2 e0 w) rfl ⟨rfl, trivial⟩ (by decide) ?_
  rintro sv H' G' ⟨rfl, rfl, rfl⟩ -
  rw [he2]
  refine ⟨by simp, ?_⟩
  repeat' ((fail_if_success with_reducible refine Stop.mk ?_); (conv => whnf); with_reducible first | refine br_t ?_ | refine br_f ?_ | refine br_nn ?_ | refine br_ns ?_ | refine br_not ?_ | refine br_d (fun h => ?_) (fun h => ?_) | refine br_e (fun h => ?_) (fun h => ?_) | refine br_n (fun h => ?_) (fun h => ?_) | refine drw (by kernel_rfl) ?_ | refine chk (by kernel_rfl) ?_ | refine stop ?_)
  all_goals refine Stop.mk ?_
  refine call_fn [0] (at_fn _ A1 bs.length c1 a2 e2) rfl ⟨rfl, trivial⟩ (by decide) ?_
  rintro sv H' G' ⟨rfl, rfl, rfl⟩ -
  refine ⟨by simp, ?_⟩
  repeat' ((fail_if_success with_reducible refine Stop.mk ?_); (conv => whnf); with_reducible first | refine br_t ?_ | refine br_f ?_ | refine br_nn ?_ | refine br_ns ?_ | refine br_not ?_ | refine br_d (fun h => ?_) (fun h => ?_) | refine br_e (fun h => ?_) (fun h => ?_) | refine br_n (fun h => ?_) (fun h => ?_) | refine drw (by kernel_rfl) ?_ | refine chk (by kernel_rfl) ?_ | refine stop ?_)
  all_goals refine Stop.mk ?_
  refine call_fn [0] (err_fn _ A1 bs.length c1 a2 e2) rfl ⟨rfl, trivial⟩ (by decide) ?_
  rintro sv H' G' ⟨rfl, rfl, rfl⟩ -
  refine ⟨by simp, ?_⟩
  repeat' ((fail_if_success with_reducible refine Stop.mk ?_); (conv => whnf); with_reducible first | refine br_t ?_ | refine br_f ?_ | refine br_nn ?_ | refine br_ns ?_ | refine br_not ?_ | refine br_d (fun h => ?_) (fun h => ?_) | refine br_e (fun h => ?_) (fun h => ?_) | refine br_n (fun h => ?_) (fun h => ?_) | refine drw (by kernel_rfl) ?_ | refine chk (by kernel_rfl) ?_ | refine stop ?_)
  all_goals refine Stop.mk ?_
  all_goals try (exfalso; omega)
  all_goals
    refine loop_rule follows [] (α := Nat) (fun k s => ∃ G, (k ≤ rs.length ∧ SlB G A1 c1 bs ∧ SlR G B d rs) ∧
      s = ⟨mkF 100 [(2, .v (.slice B rs.length d)), (8, .p 0 0), (9, .v (.int .i64 a2)), (10, .v (.int .i64 e2)), (11, .v (.int .i64 k))], [curO A1 bs.length c1 a2 e2], G⟩) (fun k => rs.length - k)
      ⟨0, _, ⟨_, ⟨by omega, hs1, hrs⟩, rfl⟩, rfl, rfl, ?_⟩ ?_
    · (repeat' (first | exact trivial | exact .inl rfl | exact .inr rfl | refine And.intro ?_ ?_))
    rintro k s ⟨Gk, ⟨hk, hs1, hrs⟩, rfl⟩
    have hw2 : IntKind.i64.wrap ((k : Int) + 1) = ((k + 1 : Nat) : Int) := by rw [i64_in (by omega) (by omega)]; simp
    repeat' ((fail_if_success with_reducible refine Stop.mk ?_); (conv => whnf); with_reducible first | refine br_t ?_ | refine br_f ?_ | refine br_nn ?_ | refine br_ns ?_ | refine br_not ?_ | refine br_d (fun h => ?_) (fun h => ?_) | refine br_e (fun h => ?_) (fun h => ?_) | refine br_n (fun h => ?_) (fun h => ?_) | refine drw (by kernel_rfl) ?_ | refine chk (by kernel_rfl) ?_ | refine stop ?_)
    all_goals refine Stop.mk ?_
    · refine ⟨⟨by omega, by omega⟩, _, hrs, fun ad had => ?_⟩
      rw [Int.toNat_natCast] at had
      have hel := elR had (by omega)
      repeat' ((fail_if_success with_reducible refine Stop.mk ?_); (conv => whnf); with_reducible first | refine br_t ?_ | refine br_f ?_ | refine br_nn ?_ | refine br_ns ?_ | refine br_not ?_ | refine br_d (fun h => ?_) (fun h => ?_) | refine br_e (fun h => ?_) (fun h => ?_) | refine br_n (fun h => ?_) (fun h => ?_) | refine drw (by kernel_rfl) ?_ | refine chk (by kernel_rfl) ?_ | refine stop ?_)
      all_goals refine Stop.mk ?_
      have hok := hrk rs[k] (List.getElem_mem (by omega))
      generalize rs[k] = r at hel hok
      refine ⟨r.vals, rfl, hel, ?_⟩
      repeat' ((fail_if_success with_reducible refine Stop.mk ?_); (conv => whnf); with_reducible first | refine br_t ?_ | refine br_f ?_ | refine br_nn ?_ | refine br_ns ?_ | refine br_not ?_ | refine br_d (fun h => ?_) (fun h => ?_) | refine br_e (fun h => ?_) (fun h => ?_) | refine br_n (fun h => ?_) (fun h => ?_) | refine drw (by kernel_rfl) ?_ | refine chk (by kernel_rfl) ?_ | refine stop ?_)
      all_goals refine Stop.mk ?_
      refine call_fn [0] (read_fn _ A1 bs c1 a2 e2 r hb hs1 ha2 (by omega) hok) rfl ⟨rfl, trivial⟩ (by decide) ?_
      intro sv H' G2 hp hg
      unfold ReadPost at hp
      rw [rdS_err _ _ _ _ hne] at hp
      dsimp only at hp
      obtain ⟨⟨A2, c2, rfl, hs2⟩, rfl⟩ := hp
      replace hs1 := hs1.to hg
      replace hrs := hrs.to hg
      clear hg
      have hx0 : ([] : List Int).length = 0 := rfl
      refine ⟨by simp, ?_⟩
      repeat' ((fail_if_success with_reducible refine Stop.mk ?_); (conv => whnf); with_reducible first | refine br_t ?_ | refine br_f ?_ | refine br_nn ?_ | refine br_ns ?_ | refine br_not ?_ | refine br_d (fun h => ?_) (fun h => ?_) | refine br_e (fun h => ?_) (fun h => ?_) | refine br_n (fun h => ?_) (fun h => ?_) | refine drw (by kernel_rfl) ?_ | refine chk (by kernel_rfl) ?_ | refine stop ?_)
      all_goals refine Stop.mk ?_
      all_goals try (exfalso; omega)
      refine call_fn [0] (at_fn _ A1 bs.length c1 a2 e2) rfl ⟨rfl, trivial⟩ (by decide) ?_
      rintro sv H' G' ⟨rfl, rfl, rfl⟩ -
      refine ⟨by simp, ?_⟩
      repeat' ((fail_if_success with_reducible refine Stop.mk ?_); (conv => whnf); with_reducible first | refine br_t ?_ | refine br_f ?_ | refine br_nn ?_ | refine br_ns ?_ | refine br_not ?_ | refine br_d (fun h => ?_) (fun h => ?_) | refine br_e (fun h => ?_) (fun h => ?_) | refine br_n (fun h => ?_) (fun h => ?_) | refine drw (by kernel_rfl) ?_ | refine chk (by kernel_rfl) ?_ | refine stop ?_)
      all_goals refine Stop.mk ?_
      all_goals try (exfalso; omega)
      refine call_fn [0] (err_fn _ A1 bs.length c1 a2 e2) rfl ⟨rfl, trivial⟩ (by decide) ?_
      rintro sv H' G' ⟨rfl, rfl, rfl⟩ -
      refine ⟨by simp, ?_⟩
      repeat' ((fail_if_success with_reducible refine Stop.mk ?_); (conv => whnf); with_reducible first | refine br_t ?_ | refine br_f ?_ | refine br_nn ?_ | refine br_ns ?_ | refine br_not ?_ | refine br_d (fun h => ?_) (fun h => ?_) | refine br_e (fun h => ?_) (fun h => ?_) | refine br_n (fun h => ?_) (fun h => ?_) | refine drw (by kernel_rfl) ?_ | refine chk (by kernel_rfl) ?_ | refine stop ?_)
      all_goals refine Stop.mk ?_
      all_goals try (exfalso; omega)
      refine call_fn [0] (left_fn _ A1 bs.length c1 a2 e2 (by omega) (by omega) (by omega)) rfl ⟨rfl, trivial⟩ (by decide) ?_
      rintro sv H' G' ⟨rfl, rfl, rfl⟩ -
      rw [show leftN bs.length a2 e2 = 0 from if_neg hne]
      refine ⟨by simp, ?_⟩
      repeat' ((fail_if_success with_reducible refine Stop.mk ?_); (conv => whnf); with_reducible first | refine br_t ?_ | refine br_f ?_ | refine br_nn ?_ | refine br_ns ?_ | refine br_not ?_ | refine br_d (fun h => ?_) (fun h => ?_) | refine br_e (fun h => ?_) (fun h => ?_) | refine br_n (fun h => ?_) (fun h => ?_) | refine drw (by kernel_rfl) ?_ | refine chk (by kernel_rfl) ?_ | refine stop ?_)
      all_goals refine Stop.mk ?_
      all_goals try (exfalso; omega)
      rw [hw2]
      refine ⟨k + 1, _, ⟨_, ⟨by omega, hs1, hrs⟩, rfl⟩, by omega, rfl, rfl, ?_⟩
      (repeat' (first | exact trivial | exact .inl rfl | exact .inr rfl | refine And.intro ?_ ?_))
    · refine fin_id hE 0 rfl rfl rfl rfl ⟨rfl, rfl⟩
end Go.Proofs.Ytihnbkoeaaepiaa.Cu
