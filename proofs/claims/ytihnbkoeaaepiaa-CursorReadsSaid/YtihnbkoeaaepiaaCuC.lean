/- The law of the reads: the walk. -/
import Derived.Test.YtihnbkoeaaepiaaCuB
namespace Go.Proofs.Ytihnbkoeaaepiaa.Cu
open Go Go.SX Go.Proofs.Ytihnbkoeaaepiaa.VT
set_option maxRecDepth 100000
set_option linter.unusedVariables false
set_option linter.unusedSimpArgs false
set_option maxHeartbeats 8000000 in
theorem reads_fn (G : Gh) (A B C : Option Addr) (c d f : Nat) (ns ys bs : List Int) (hn : SlK G .u64 A c ns) (hy : SlK G .i64 B d ys) (hs : SlB G C f bs)
    (hnr : ∀ n ∈ ns, 0 ≤ n ∧ n < 18446744073709551616) (hyr : ∀ y ∈ ys, -9223372036854775808 ≤ y ∧ y ≤ 9223372036854775807) (hb : isB bs) :
    Ct Try.prog 7 [.v (.slice A ns.length c), .v (.slice B ys.length d), .v (.slice C bs.length f)] [] G fun sv H' G' => sv = .v (.bool true) ∧ H' = [] := by
  have ht1 := hn.top
  have hc1 := hn.cap
  have ht2 := hy.top
  have hc2 := hy.cap
  have ht3 := hs.top
  have hc3 := hs.cap
  refine fn_of follows [(21, [(0, []), (2, []), (3, []), (4, []), (5, []), (1, []), (6, []), (7, []), (8, []), (10, []), (11, []), (9, [5]), (12, []), (13, [])]), (26, [(0, []), (2, []), (3, []), (4, []), (5, []), (1, []), (6, [])])] Try.func7 rfl rfl fun E hE => ?_
  repeat' ((fail_if_success with_reducible refine Stop.mk ?_); (conv => whnf); with_reducible first | refine br_t ?_ | refine br_f ?_ | refine br_nn ?_ | refine br_ns ?_ | refine br_not ?_ | refine br_d (fun h => ?_) (fun h => ?_) | refine br_e (fun h => ?_) (fun h => ?_) | refine br_n (fun h => ?_) (fun h => ?_) | refine drw (by kernel_rfl) ?_ | refine stop ?_)
  all_goals refine Stop.mk ?_
  refine call_fn [] (awake_fn G) rfl trivial (by decide) ?_
  rintro sv H' G' ⟨rfl, rfl⟩ hg
  replace hn := hn.to hg
  replace hy := hy.to hg
  replace hs := hs.to hg
  clear hg
  refine ⟨by simp, ?_⟩
  repeat' ((fail_if_success with_reducible refine Stop.mk ?_); (conv => whnf); with_reducible first | refine br_t ?_ | refine br_f ?_ | refine br_nn ?_ | refine br_ns ?_ | refine br_not ?_ | refine br_d (fun h => ?_) (fun h => ?_) | refine br_e (fun h => ?_) (fun h => ?_) | refine br_n (fun h => ?_) (fun h => ?_) | refine drw (by kernel_rfl) ?_ | refine stop ?_)
  all_goals refine Stop.mk ?_
  all_goals first
    | (refine call_fn [] (awake_fn _) rfl trivial (by decide) ?_
       rintro sv H' G' ⟨rfl, rfl⟩ -
       refine ⟨by simp, ?_⟩
       repeat' ((fail_if_success with_reducible refine Stop.mk ?_); (conv => whnf); with_reducible first | refine br_t ?_ | refine br_f ?_ | refine br_nn ?_ | refine br_ns ?_ | refine br_not ?_ | refine br_d (fun h => ?_) (fun h => ?_) | refine br_e (fun h => ?_) (fun h => ?_) | refine br_n (fun h => ?_) (fun h => ?_) | refine drw (by kernel_rfl) ?_ | refine stop ?_)
       all_goals refine Stop.mk ?_
       exact fin_all ⟨rfl, rfl⟩)
    | skip
  rw [show IntKind.u64.wrap (ns.length : Int) = ((ns.length : Nat) : Int) from u64_in (by omega) (by omega)]
  have hbp := putB_is ns.length (by omega)
  have hpl := putB_len ns.length
  have hpl0 : 0 < (putB ns.length).length := vput_len_pos 9 _
  refine call_fn [0] (wuint0_fn _ ns.length (by omega)) rfl ⟨rfl, trivial⟩ (by decide) ?_
  rintro sv H' G' ⟨rfl, rfl⟩ hg
  replace hn := hn.to hg
  replace hy := hy.to hg
  replace hs := hs.to hg
  clear hg
  refine ⟨by simp [wrH], ?_⟩
  repeat' ((fail_if_success with_reducible refine Stop.mk ?_); (conv => whnf); with_reducible first | refine br_t ?_ | refine br_f ?_ | refine br_nn ?_ | refine br_ns ?_ | refine br_not ?_ | refine br_d (fun h => ?_) (fun h => ?_) | refine br_e (fun h => ?_) (fun h => ?_) | refine br_n (fun h => ?_) (fun h => ?_) | refine drw (by kernel_rfl) ?_ | refine stop ?_)
  all_goals refine Stop.mk ?_
  refine loop_rule follows [(21, [(0, []), (2, []), (3, []), (4, []), (5, []), (1, []), (6, []), (7, []), (8, []), (10, []), (11, []), (9, [5]), (12, []), (13, [])]), (26, [(0, []), (2, []), (3, []), (4, []), (5, []), (1, []), (6, [])])] (α := Nat) (fun k s => ∃ G W, (k ≤ ns.length ∧ W = putB ns.length ++ encN 0 (ns.take k) ∧ SlK G .u64 A c ns ∧ SlK G .i64 B d ys ∧ SlB G C f bs) ∧
      s = ⟨mkF 142 [(0, .v (.slice A ns.length c)), (1, .v (.slice B ys.length d)), (2, .v (.slice C bs.length f)), (7, .p 0 0), (8, .v (.int .i64 k))], wrH W, G⟩) (fun k => ns.length - k)
      ⟨0, _, ⟨G', putB ns.length, ⟨by omega, by simp [encN], hn, hy, hs⟩, rfl⟩, rfl, rfl, ?_⟩ ?_
  · (repeat' (first | exact trivial | exact .inl rfl | exact .inr rfl | refine And.intro ?_ ?_))
  clear hn hy hs
  rintro k s ⟨Gk, W, ⟨hk, hW, hn, hy, hs⟩, rfl⟩
  have hw2 : IntKind.i64.wrap ((k : Int) + 1) = ((k + 1 : Nat) : Int) := by rw [i64_in (by omega) (by omega)]; simp
  have hWl : W.length ≤ 2000 := by
    have := (encN_len (ns.take k) 0).1
    rw [hW, List.length_append]; rw [List.length_take] at this; omega
  repeat' ((fail_if_success with_reducible refine Stop.mk ?_); (conv => whnf); with_reducible first | refine br_t ?_ | refine br_f ?_ | refine br_nn ?_ | refine br_ns ?_ | refine br_not ?_ | refine br_d (fun h => ?_) (fun h => ?_) | refine br_e (fun h => ?_) (fun h => ?_) | refine br_n (fun h => ?_) (fun h => ?_) | refine drw (by kernel_rfl) ?_ | refine stop ?_)
  all_goals refine Stop.mk ?_
  · refine ⟨⟨by omega, by omega⟩, _, hn, fun ad had => ?_⟩
    rw [Int.toNat_natCast] at had
    have hel := elK had (by omega)
    have hrg := getD_all hnr (i := k) (by omega)
    have hstep := encN_take ns 0 k (by omega)
    obtain ⟨x, hx⟩ : ∃ x : Nat, ns.getD k 0 = (x : Int) := ⟨(ns.getD k 0).toNat, by omega⟩
    rw [hx] at hel hrg hstep
    rw [Int.toNat_natCast, Nat.zero_add] at hstep
    repeat' ((fail_if_success with_reducible refine Stop.mk ?_); (conv => whnf); with_reducible first | refine br_t ?_ | refine br_f ?_ | refine br_nn ?_ | refine br_ns ?_ | refine br_not ?_ | refine br_d (fun h => ?_) (fun h => ?_) | refine br_e (fun h => ?_) (fun h => ?_) | refine br_n (fun h => ?_) (fun h => ?_) | refine drw (by kernel_rfl) ?_ | refine stop ?_)
    all_goals refine Stop.mk ?_
    refine ⟨_, hel, ?_⟩
    repeat' ((fail_if_success with_reducible refine Stop.mk ?_); (conv => whnf); with_reducible first | refine br_t ?_ | refine br_f ?_ | refine br_nn ?_ | refine br_ns ?_ | refine br_not ?_ | refine br_d (fun h => ?_) (fun h => ?_) | refine br_e (fun h => ?_) (fun h => ?_) | refine br_n (fun h => ?_) (fun h => ?_) | refine drw (by kernel_rfl) ?_ | refine stop ?_)
    all_goals refine Stop.mk ?_
    refine call_fn [0, 1] (wuint_fn _ x W (by omega) (by omega)) rfl ⟨rfl, rfl, trivial⟩ (by decide) ?_
    rintro sv H' G' ⟨rfl, rfl⟩ hg
    replace hn := hn.to hg
    replace hy := hy.to hg
    replace hs := hs.to hg
    clear hg
    refine ⟨by simp [wrH], ?_⟩
    repeat' ((fail_if_success with_reducible refine Stop.mk ?_); (conv => whnf); with_reducible first | refine br_t ?_ | refine br_f ?_ | refine br_nn ?_ | refine br_ns ?_ | refine br_not ?_ | refine br_d (fun h => ?_) (fun h => ?_) | refine br_e (fun h => ?_) (fun h => ?_) | refine br_n (fun h => ?_) (fun h => ?_) | refine drw (by kernel_rfl) ?_ | refine stop ?_)
    all_goals refine Stop.mk ?_
    have hpx := putB_len x
    rw [show IntKind.u8.wrap (k : Int) = ((k % 256 : Nat) : Int) by rw [IntKind.wrap_u8]; omega]
    refine call_fn [0, 1] (wbyte_fn _ ((k % 256 : Nat) : Int) (W ++ putB x) (by rw [List.length_append]; omega)) rfl ⟨rfl, rfl, trivial⟩ (by decide) ?_
    rintro sv H' G' ⟨rfl, rfl⟩ hg
    replace hn := hn.to hg
    replace hy := hy.to hg
    replace hs := hs.to hg
    clear hg
    refine ⟨by simp [wrH], ?_⟩
    repeat' ((fail_if_success with_reducible refine Stop.mk ?_); (conv => whnf); with_reducible first | refine br_t ?_ | refine br_f ?_ | refine br_nn ?_ | refine br_ns ?_ | refine br_not ?_ | refine br_d (fun h => ?_) (fun h => ?_) | refine br_e (fun h => ?_) (fun h => ?_) | refine br_n (fun h => ?_) (fun h => ?_) | refine drw (by kernel_rfl) ?_ | refine stop ?_)
    all_goals refine Stop.mk ?_
    rw [hw2]
    refine ⟨k + 1, _, ⟨_, _, ⟨by omega, ?_, hn, hy, hs⟩, rfl⟩, by omega, rfl, rfl, ?_⟩
    · rw [hstep, hW]; simp
    · (repeat' (first | exact trivial | exact .inl rfl | exact .inr rfl | refine And.intro ?_ ?_))
  obtain rfl : k = ns.length := by omega
  rw [List.take_of_length_le (Nat.le_refl _)] at hW
  clear hw2
  refine loop_rule follows [(21, [(0, []), (2, []), (3, []), (4, []), (5, []), (1, []), (6, []), (7, []), (8, []), (10, []), (11, []), (9, [5]), (12, []), (13, [])]), (26, [(0, []), (2, []), (3, []), (4, []), (5, []), (1, []), (6, [])])] (α := Nat) (fun k s => ∃ G V, (k ≤ ys.length ∧ V = W ++ encI (ys.take k) ∧ SlK G .u64 A c ns ∧ SlK G .i64 B d ys ∧ SlB G C f bs) ∧
      s = ⟨mkF 142 [(0, .v (.slice A ns.length c)), (1, .v (.slice B ys.length d)), (2, .v (.slice C bs.length f)), (7, .p 0 0), (9, .v (.int .i64 k))], wrH V, G⟩) (fun k => ys.length - k)
      ⟨0, _, ⟨Gk, W, ⟨by omega, by simp [encI], hn, hy, hs⟩, rfl⟩, rfl, rfl, ?_⟩ ?_
  · (repeat' (first | exact trivial | exact .inl rfl | exact .inr rfl | refine And.intro ?_ ?_))
  clear hn hy hs
  rintro k s ⟨Gk, V, ⟨hk, hV, hn, hy, hs⟩, rfl⟩
  have hw2 : IntKind.i64.wrap ((k : Int) + 1) = ((k + 1 : Nat) : Int) := by rw [i64_in (by omega) (by omega)]; simp
  have hVl : V.length ≤ 3000 := by
    have := encI_len (ys.take k)
    rw [hV, List.length_append]; rw [List.length_take] at this; omega
  repeat' ((fail_if_success with_reducible refine Stop.mk ?_); (conv => whnf); with_reducible first | refine br_t ?_ | refine br_f ?_ | refine br_nn ?_ | refine br_ns ?_ | refine br_not ?_ | refine br_d (fun h => ?_) (fun h => ?_) | refine br_e (fun h => ?_) (fun h => ?_) | refine br_n (fun h => ?_) (fun h => ?_) | refine drw (by kernel_rfl) ?_ | refine stop ?_)
  all_goals refine Stop.mk ?_
  · refine ⟨⟨by omega, by omega⟩, _, hy, fun ad had => ?_⟩
    rw [Int.toNat_natCast] at had
    have hel := elK had (by omega)
    have hrg := getD_all hyr (i := k) (by omega)
    have hstep := encI_take ys k (by omega)
    generalize ys.getD k 0 = y at hel hrg hstep
    repeat' ((fail_if_success with_reducible refine Stop.mk ?_); (conv => whnf); with_reducible first | refine br_t ?_ | refine br_f ?_ | refine br_nn ?_ | refine br_ns ?_ | refine br_not ?_ | refine br_d (fun h => ?_) (fun h => ?_) | refine br_e (fun h => ?_) (fun h => ?_) | refine br_n (fun h => ?_) (fun h => ?_) | refine drw (by kernel_rfl) ?_ | refine stop ?_)
    all_goals refine Stop.mk ?_
    refine ⟨_, hel, ?_⟩
    repeat' ((fail_if_success with_reducible refine Stop.mk ?_); (conv => whnf); with_reducible first | refine br_t ?_ | refine br_f ?_ | refine br_nn ?_ | refine br_ns ?_ | refine br_not ?_ | refine br_d (fun h => ?_) (fun h => ?_) | refine br_e (fun h => ?_) (fun h => ?_) | refine br_n (fun h => ?_) (fun h => ?_) | refine drw (by kernel_rfl) ?_ | refine stop ?_)
    all_goals refine Stop.mk ?_
    refine call_fn [0, 1] (wint_fn _ y V (by omega) (by omega) (by omega)) rfl ⟨rfl, rfl, trivial⟩ (by decide) ?_
    rintro sv H' G' ⟨rfl, rfl⟩ hg
    replace hn := hn.to hg
    replace hy := hy.to hg
    replace hs := hs.to hg
    clear hg
    refine ⟨by simp [wrH], ?_⟩
    repeat' ((fail_if_success with_reducible refine Stop.mk ?_); (conv => whnf); with_reducible first | refine br_t ?_ | refine br_f ?_ | refine br_nn ?_ | refine br_ns ?_ | refine br_not ?_ | refine br_d (fun h => ?_) (fun h => ?_) | refine br_e (fun h => ?_) (fun h => ?_) | refine br_n (fun h => ?_) (fun h => ?_) | refine drw (by kernel_rfl) ?_ | refine stop ?_)
    all_goals refine Stop.mk ?_
    rw [hw2]
    refine ⟨k + 1, _, ⟨_, _, ⟨by omega, ?_, hn, hy, hs⟩, rfl⟩, by omega, rfl, rfl, ?_⟩
    · rw [hstep, hV]; simp
    · (repeat' (first | exact trivial | exact .inl rfl | exact .inr rfl | refine And.intro ?_ ?_))
  obtain rfl : k = ys.length := by omega
  rw [List.take_of_length_le (Nat.le_refl _)] at hV
  clear hw2
  refine call_fn [0, 1] (wbytes_fn _ C f bs V hs (by omega)) rfl ⟨rfl, rfl, trivial⟩ (by decide) ?_
  rintro sv H' G' ⟨rfl, rfl, rfl⟩ -
  refine ⟨by simp [wrH], ?_⟩
  obtain ⟨U, hU⟩ : ∃ U, V ++ bs = U := ⟨_, rfl⟩
  have hUl : U.length ≤ 4000 := by rw [← hU, List.length_append]; omega
  rw [hU]
  repeat' ((fail_if_success with_reducible refine Stop.mk ?_); (conv => whnf); with_reducible first | refine br_t ?_ | refine br_f ?_ | refine br_nn ?_ | refine br_ns ?_ | refine br_not ?_ | refine br_d (fun h => ?_) (fun h => ?_) | refine br_e (fun h => ?_) (fun h => ?_) | refine br_n (fun h => ?_) (fun h => ?_) | refine drw (by kernel_rfl) ?_ | refine stop ?_)
  all_goals refine Stop.mk ?_
  refine call_fn [0, 1] (wout_fn _ U (by omega)) rfl ⟨rfl, rfl, trivial⟩ (by decide) ?_
  rintro sv H' G' ⟨rfl, rfl, rfl⟩ -
  refine ⟨by simp [wrH], ?_⟩
  repeat' ((fail_if_success with_reducible refine Stop.mk ?_); (conv => whnf); with_reducible first | refine br_t ?_ | refine br_f ?_ | refine br_nn ?_ | refine br_ns ?_ | refine br_not ?_ | refine br_d (fun h => ?_) (fun h => ?_) | refine br_e (fun h => ?_) (fun h => ?_) | refine br_n (fun h => ?_) (fun h => ?_) | refine drw (by kernel_rfl) ?_ | refine stop ?_)
  all_goals refine Stop.mk ?_
  refine call_done 2 rfl (byts_one _) (fun X x GX hgx hx => call_fn [] (new_fn GX X U x hx (by omega)) rfl trivial (by decide) ?_) (new_fn _ none [] 0 (slB_nil G') (by decide)).enters
  rintro sv H' G' ⟨A1, c1, rfl, rfl, hsU⟩ hg
  replace hn := (hn.to hgx).to hg
  replace hy := (hy.to hgx).to hg
  replace hs := (hs.to hgx).to hg
  clear hg hgx hx
  refine ⟨by simp, ?_⟩
  repeat' ((fail_if_success with_reducible refine Stop.mk ?_); (conv => whnf); with_reducible first | refine br_t ?_ | refine br_f ?_ | refine br_nn ?_ | refine br_ns ?_ | refine br_not ?_ | refine br_d (fun h => ?_) (fun h => ?_) | refine br_e (fun h => ?_) (fun h => ?_) | refine br_n (fun h => ?_) (fun h => ?_) | refine drw (by kernel_rfl) ?_ | refine stop ?_)
  all_goals refine Stop.mk ?_
  have hUe : U = putB ns.length ++ (encN 0 ns ++ (encI ys ++ bs)) := by rw [← hU, hV, hW]; simp
  have hbU : isB U := by rw [hUe]; exact isB_app hbp (isB_app (encN_is ns 0 hnr) (isB_app (encI_is ys hyr) hb))
  have hUl2 : (putB ns.length).length + 2 * ns.length ≤ U.length := by
    have := (encN_len ns 0).2
    rw [hUe]; simp only [List.length_append]; omega
  have hcc : cCount U 0 0 100 2 = ((ns.length : Int), (putB ns.length).length, 0) := by
    have hv : vdec 0 U = ((ns.length : Int), ((putB ns.length).length : Int), 0) := by rw [hUe]; exact vdec_put ns.length (by omega) _
    have hw : whyC 100 2 U.length (vdec 0 U) = 0 := by
      rw [hv]; unfold whyC; rw [if_neg (by simp), if_neg (by simp only; omega), if_neg (by simp only; omega)]
    unfold cCount resC
    rw [if_neg (by decide), List.drop_zero, if_neg (by decide), if_pos hw, hv]
    simp
  have hUt := hsU.top
  have hUc := hsU.cap
  refine call_fn [3] (count_fn _ A1 U c1 0 0 100 2 hbU hsU (by omega) (by decide) (by decide)) rfl ⟨rfl, trivial⟩ (by decide) ?_
  rintro sv H' G' ⟨rfl, rfl, rfl⟩ -
  refine ⟨by simp, ?_⟩
  rw [hcc]
  dsimp only
  repeat' ((fail_if_success with_reducible refine Stop.mk ?_); (conv => whnf); with_reducible first | refine br_t ?_ | refine br_f ?_ | refine br_nn ?_ | refine br_ns ?_ | refine br_not ?_ | refine br_d (fun h => ?_) (fun h => ?_) | refine br_e (fun h => ?_) (fun h => ?_) | refine br_n (fun h => ?_) (fun h => ?_) | refine drw (by kernel_rfl) ?_ | refine stop ?_)
  all_goals refine Stop.mk ?_
  all_goals try (exfalso; omega)
  have hdr : U.drop (putB ns.length).length = encN 0 ns ++ (encI ys ++ bs) := by rw [hUe]; simp
  have hpu : (putB ns.length).length ≤ U.length := by omega
  generalize (putB ns.length).length = a0 at *
  refine loop_rule follows [(21, [(0, []), (2, []), (3, []), (4, []), (5, []), (1, []), (6, []), (7, []), (8, []), (10, []), (11, []), (9, [5]), (12, []), (13, [])]), (26, [(0, []), (2, []), (3, []), (4, []), (5, []), (1, []), (6, [])])] (α := Nat) (fun k s => ∃ G a, (k ≤ ns.length ∧ a ≤ U.length ∧ U.drop a = encN k (ns.drop k) ++ (encI ys ++ bs) ∧ SlK G .u64 A c ns ∧ SlK G .i64 B d ys ∧ SlB G C f bs ∧ SlB G A1 c1 U) ∧
      s = ⟨mkF 142 [(0, .v (.slice A ns.length c)), (1, .v (.slice B ys.length d)), (2, .v (.slice C bs.length f)), (7, .p 0 0), (10, .p 3 0), (11, .v (.int .i64 k))], wrH U ++ [.gone, curO A1 U.length c1 (a : Nat) 0], G⟩) (fun k => ns.length - k)
      ⟨0, _, ⟨_, a0, ⟨by omega, hpu, hdr, hn, hy, hs, hsU⟩, rfl⟩, rfl, rfl, ?_⟩ ?_
  · (repeat' (first | exact trivial | exact .inl rfl | exact .inr rfl | refine And.intro ?_ ?_))
  clear hn hy hs hsU hpu hdr
  rintro k s ⟨Gk, a, ⟨hk, ha, hdr, hn, hy, hs, hsU⟩, rfl⟩
  have hw2 : IntKind.i64.wrap ((k : Int) + 1) = ((k + 1 : Nat) : Int) := by rw [i64_in (by omega) (by omega)]; simp
  repeat' ((fail_if_success with_reducible refine Stop.mk ?_); (conv => whnf); with_reducible first | refine br_t ?_ | refine br_f ?_ | refine br_nn ?_ | refine br_ns ?_ | refine br_not ?_ | refine br_d (fun h => ?_) (fun h => ?_) | refine br_e (fun h => ?_) (fun h => ?_) | refine br_n (fun h => ?_) (fun h => ?_) | refine drw (by kernel_rfl) ?_ | refine stop ?_)
  all_goals refine Stop.mk ?_
  · refine ⟨⟨by omega, by omega⟩, _, hn, fun ad had => ?_⟩
    rw [Int.toNat_natCast] at had
    have hel := elK had (by omega)
    have hrg := getD_all hnr (i := k) (by omega)
    rw [drop_at (xs := ns) (i := k) (by omega)] at hdr
    obtain ⟨x, hx⟩ : ∃ x : Nat, ns.getD k 0 = (x : Int) := ⟨(ns.getD k 0).toNat, by omega⟩
    rw [hx] at hel hrg hdr
    rw [encN, Int.toNat_natCast, List.append_assoc] at hdr
    have hcu := cUint_put (by omega) hdr
    have hd2 := drop_more hdr
    have hcb := cByte_put hd2
    have hd3 := drop_more (p := [((k % 256 : Nat) : Int)]) hd2
    have ha2 := drop_len hd2 (by have := drop_len hdr ha; rw [List.length_append] at this; omega)
    simp only [List.cons_append, List.length_cons] at ha2
    repeat' ((fail_if_success with_reducible refine Stop.mk ?_); (conv => whnf); with_reducible first | refine br_t ?_ | refine br_f ?_ | refine br_nn ?_ | refine br_ns ?_ | refine br_not ?_ | refine br_d (fun h => ?_) (fun h => ?_) | refine br_e (fun h => ?_) (fun h => ?_) | refine br_n (fun h => ?_) (fun h => ?_) | refine drw (by kernel_rfl) ?_ | refine stop ?_)
    all_goals refine Stop.mk ?_
    refine ⟨_, hel, ?_⟩
    repeat' ((fail_if_success with_reducible refine Stop.mk ?_); (conv => whnf); with_reducible first | refine br_t ?_ | refine br_f ?_ | refine br_nn ?_ | refine br_ns ?_ | refine br_not ?_ | refine br_d (fun h => ?_) (fun h => ?_) | refine br_e (fun h => ?_) (fun h => ?_) | refine br_n (fun h => ?_) (fun h => ?_) | refine drw (by kernel_rfl) ?_ | refine stop ?_)
    all_goals refine Stop.mk ?_
    refine call_fn [3] (uint_fn _ A1 U c1 a 0 18446744073709551615 hbU hsU ha) rfl ⟨rfl, trivial⟩ (by decide) ?_
    rintro sv H' G' ⟨rfl, rfl, rfl⟩ -
    refine ⟨by simp, ?_⟩
    rw [hcu]
    dsimp only
    repeat' ((fail_if_success with_reducible refine Stop.mk ?_); (conv => whnf); with_reducible first | refine br_t ?_ | refine br_f ?_ | refine br_nn ?_ | refine br_ns ?_ | refine br_not ?_ | refine br_d (fun h => ?_) (fun h => ?_) | refine br_e (fun h => ?_) (fun h => ?_) | refine br_n (fun h => ?_) (fun h => ?_) | refine drw (by kernel_rfl) ?_ | refine stop ?_)
    all_goals refine Stop.mk ?_
    all_goals try (exfalso; omega)
    refine call_fn [3] (byte_fn _ A1 U c1 (a + (putB x).length) 0 hbU hsU (by omega)) rfl ⟨rfl, trivial⟩ (by decide) ?_
    rintro sv H' G' ⟨rfl, rfl, rfl⟩ -
    refine ⟨by simp, ?_⟩
    rw [hcb]
    dsimp only
    have hwk : IntKind.u8.wrap (k : Int) = ((k % 256 : Nat) : Int) := by rw [IntKind.wrap_u8]; omega
    repeat' ((fail_if_success with_reducible refine Stop.mk ?_); (conv => whnf); with_reducible first | refine br_t ?_ | refine br_f ?_ | refine br_nn ?_ | refine br_ns ?_ | refine br_not ?_ | refine br_d (fun h => ?_) (fun h => ?_) | refine br_e (fun h => ?_) (fun h => ?_) | refine br_n (fun h => ?_) (fun h => ?_) | refine drw (by kernel_rfl) ?_ | refine stop ?_)
    all_goals refine Stop.mk ?_
    all_goals try (exfalso; omega)
    rw [hw2]
    refine ⟨k + 1, _, ⟨_, a + (putB x).length + 1, ⟨by omega, by omega, hd3, hn, hy, hs, hsU⟩, rfl⟩, by omega, rfl, rfl, ?_⟩
    (repeat' (first | exact trivial | exact .inl rfl | exact .inr rfl | refine And.intro ?_ ?_))
  obtain rfl : k = ns.length := by omega
  rw [List.drop_eq_nil_of_le (Nat.le_refl _), encN, List.nil_append] at hdr
  clear hw2
  refine loop_rule follows [(21, [(0, []), (2, []), (3, []), (4, []), (5, []), (1, []), (6, []), (7, []), (8, []), (10, []), (11, []), (9, [5]), (12, []), (13, [])]), (26, [(0, []), (2, []), (3, []), (4, []), (5, []), (1, []), (6, [])])] (α := Nat) (fun k s => ∃ G a, (k ≤ ys.length ∧ a ≤ U.length ∧ U.drop a = encI (ys.drop k) ++ bs ∧ SlK G .i64 B d ys ∧ SlB G C f bs ∧ SlB G A1 c1 U) ∧
      s = ⟨mkF 142 [(1, .v (.slice B ys.length d)), (2, .v (.slice C bs.length f)), (7, .p 0 0), (10, .p 3 0), (12, .v (.int .i64 k))], wrH U ++ [.gone, curO A1 U.length c1 (a : Nat) 0], G⟩) (fun k => ys.length - k)
      ⟨0, _, ⟨_, a, ⟨by omega, ha, hdr, hy, hs, hsU⟩, rfl⟩, rfl, rfl, ?_⟩ ?_
  · (repeat' (first | exact trivial | exact .inl rfl | exact .inr rfl | refine And.intro ?_ ?_))
  clear hn hy hs hsU hdr ha a
  rintro k s ⟨Gk, a, ⟨hk, ha, hdr, hy, hs, hsU⟩, rfl⟩
  have hw2 : IntKind.i64.wrap ((k : Int) + 1) = ((k + 1 : Nat) : Int) := by rw [i64_in (by omega) (by omega)]; simp
  repeat' ((fail_if_success with_reducible refine Stop.mk ?_); (conv => whnf); with_reducible first | refine br_t ?_ | refine br_f ?_ | refine br_nn ?_ | refine br_ns ?_ | refine br_not ?_ | refine br_d (fun h => ?_) (fun h => ?_) | refine br_e (fun h => ?_) (fun h => ?_) | refine br_n (fun h => ?_) (fun h => ?_) | refine drw (by kernel_rfl) ?_ | refine stop ?_)
  all_goals refine Stop.mk ?_
  · refine ⟨⟨by omega, by omega⟩, _, hy, fun ad had => ?_⟩
    rw [Int.toNat_natCast] at had
    have hel := elK had (by omega)
    have hrg := getD_all hyr (i := k) (by omega)
    rw [drop_at (xs := ys) (i := k) (by omega)] at hdr
    generalize ys.getD k 0 = y at hel hrg hdr
    have hz := zig_range y hrg.1 hrg.2
    rw [encI, List.append_assoc] at hdr
    have hcu := cUint_put (by omega) hdr
    have hd2 := drop_more hdr
    have ha1 := drop_len hdr ha
    rw [List.length_append] at ha1
    repeat' ((fail_if_success with_reducible refine Stop.mk ?_); (conv => whnf); with_reducible first | refine br_t ?_ | refine br_f ?_ | refine br_nn ?_ | refine br_ns ?_ | refine br_not ?_ | refine br_d (fun h => ?_) (fun h => ?_) | refine br_e (fun h => ?_) (fun h => ?_) | refine br_n (fun h => ?_) (fun h => ?_) | refine drw (by kernel_rfl) ?_ | refine stop ?_)
    all_goals refine Stop.mk ?_
    refine ⟨_, hel, ?_⟩
    repeat' ((fail_if_success with_reducible refine Stop.mk ?_); (conv => whnf); with_reducible first | refine br_t ?_ | refine br_f ?_ | refine br_nn ?_ | refine br_ns ?_ | refine br_not ?_ | refine br_d (fun h => ?_) (fun h => ?_) | refine br_e (fun h => ?_) (fun h => ?_) | refine br_n (fun h => ?_) (fun h => ?_) | refine drw (by kernel_rfl) ?_ | refine stop ?_)
    all_goals refine Stop.mk ?_
    refine call_fn [3] (int_fn _ A1 U c1 a 0 hbU hsU ha) rfl ⟨rfl, trivial⟩ (by decide) ?_
    rintro sv H' G' ⟨rfl, rfl, rfl⟩ -
    refine ⟨by simp, ?_⟩
    rw [hcu]
    dsimp only
    rw [Int.toNat_of_nonneg hz.1, unzig_zig]
    repeat' ((fail_if_success with_reducible refine Stop.mk ?_); (conv => whnf); with_reducible first | refine br_t ?_ | refine br_f ?_ | refine br_nn ?_ | refine br_ns ?_ | refine br_not ?_ | refine br_d (fun h => ?_) (fun h => ?_) | refine br_e (fun h => ?_) (fun h => ?_) | refine br_n (fun h => ?_) (fun h => ?_) | refine drw (by kernel_rfl) ?_ | refine stop ?_)
    all_goals refine Stop.mk ?_
    all_goals try (exfalso; omega)
    rw [hw2]
    refine ⟨k + 1, _, ⟨_, a + (putB (zig y).toNat).length, ⟨by omega, by omega, hd2, hy, hs, hsU⟩, rfl⟩, by omega, rfl, rfl, ?_⟩
    (repeat' (first | exact trivial | exact .inl rfl | exact .inr rfl | refine And.intro ?_ ?_))
  obtain rfl : k = ys.length := by omega
  rw [List.drop_eq_nil_of_le (Nat.le_refl _), encI, List.nil_append] at hdr
  have ha1 := drop_len hdr ha
  have hcb : cBytes U a 0 bs.length = (bs, U.length, 0) := by
    unfold cBytes
    rw [if_neg (by decide), if_neg (by omega), if_neg (by omega), hdr, Int.toNat_natCast, List.take_length, ha1]
  refine call_fn [3] (bytes_fn _ A1 U c1 a 0 bs.length hsU ha (by omega) (by omega)) rfl ⟨rfl, trivial⟩ (by decide) ?_
  rw [hcb]
  rintro sv H' G' ⟨⟨A2, c2, rfl, hs2⟩, rfl⟩ hg
  replace hs := hs.to hg
  replace hsU := hsU.to hg
  clear hg
  dsimp only at hs2
  refine ⟨by simp, ?_⟩
  dsimp only
  repeat' ((fail_if_success with_reducible refine Stop.mk ?_); (conv => whnf); with_reducible first | refine br_t ?_ | refine br_f ?_ | refine br_nn ?_ | refine br_ns ?_ | refine br_not ?_ | refine br_d (fun h => ?_) (fun h => ?_) | refine br_e (fun h => ?_) (fun h => ?_) | refine br_n (fun h => ?_) (fun h => ?_) | refine drw (by kernel_rfl) ?_ | refine stop ?_)
  all_goals refine Stop.mk ?_
  have hl0 : ∀ e, leftN U.length (U.length : Nat) e = 0 := fun e => by unfold leftN; split <;> omega
  refine call_fn [3] (end_fn _ A1 U.length c1 U.length 0 (by omega) (by omega) (by omega)) rfl ⟨rfl, trivial⟩ (by decide) ?_
  rintro sv H' G' ⟨rfl, rfl, rfl⟩ -
  rw [hl0, if_neg (by decide)]
  refine ⟨by simp, ?_⟩
  repeat' ((fail_if_success with_reducible refine Stop.mk ?_); (conv => whnf); with_reducible first | refine br_t ?_ | refine br_f ?_ | refine br_nn ?_ | refine br_ns ?_ | refine br_not ?_ | refine br_d (fun h => ?_) (fun h => ?_) | refine br_e (fun h => ?_) (fun h => ?_) | refine br_n (fun h => ?_) (fun h => ?_) | refine drw (by kernel_rfl) ?_ | refine stop ?_)
  all_goals refine Stop.mk ?_
  refine call_fn [] (same_fn _ A2 C c2 f bs bs hs2 hs) rfl trivial (by decide) ?_
  rintro sv H' G' ⟨rfl, rfl, rfl⟩ -
  rw [decide_eq_true (rfl : bs = bs)]
  refine ⟨by simp, ?_⟩
  repeat' ((fail_if_success with_reducible refine Stop.mk ?_); (conv => whnf); with_reducible first | refine br_t ?_ | refine br_f ?_ | refine br_nn ?_ | refine br_ns ?_ | refine br_not ?_ | refine br_d (fun h => ?_) (fun h => ?_) | refine br_e (fun h => ?_) (fun h => ?_) | refine br_n (fun h => ?_) (fun h => ?_) | refine drw (by kernel_rfl) ?_ | refine stop ?_)
  all_goals refine Stop.mk ?_
  refine call_fn [3] (err_fn _ A1 U.length c1 (U.length : Nat) 0) rfl ⟨rfl, trivial⟩ (by decide) ?_
  rintro sv H' G' ⟨rfl, rfl, rfl⟩ -
  refine ⟨by simp [wrH], ?_⟩
  repeat' ((fail_if_success with_reducible refine Stop.mk ?_); (conv => whnf); with_reducible first | refine br_t ?_ | refine br_f ?_ | refine br_nn ?_ | refine br_ns ?_ | refine br_not ?_ | refine br_d (fun h => ?_) (fun h => ?_) | refine br_e (fun h => ?_) (fun h => ?_) | refine br_n (fun h => ?_) (fun h => ?_) | refine drw (by kernel_rfl) ?_ | refine stop ?_)
  all_goals refine Stop.mk ?_
  all_goals try (exfalso; omega)
  refine call_fn [3] (left_fn _ A1 U.length c1 (U.length : Nat) 0 (by omega) (by omega) (by omega)) rfl ⟨rfl, trivial⟩ (by decide) ?_
  rintro sv H' G' ⟨rfl, rfl, rfl⟩ -
  rw [hl0]
  refine ⟨by simp [wrH], ?_⟩
  repeat' ((fail_if_success with_reducible refine Stop.mk ?_); (conv => whnf); with_reducible first | refine br_t ?_ | refine br_f ?_ | refine br_nn ?_ | refine br_ns ?_ | refine br_not ?_ | refine br_d (fun h => ?_) (fun h => ?_) | refine br_e (fun h => ?_) (fun h => ?_) | refine br_n (fun h => ?_) (fun h => ?_) | refine drw (by kernel_rfl) ?_ | refine stop ?_)
  all_goals refine Stop.mk ?_
  all_goals try (exfalso; omega)
  refine call_fn [3] (at_fn _ A1 U.length c1 (U.length : Nat) 0) rfl ⟨rfl, trivial⟩ (by decide) ?_
  rintro sv H' G' ⟨rfl, rfl, rfl⟩ -
  refine ⟨by simp [wrH], ?_⟩
  repeat' ((fail_if_success with_reducible refine Stop.mk ?_); (conv => whnf); with_reducible first | refine br_t ?_ | refine br_f ?_ | refine br_nn ?_ | refine br_ns ?_ | refine br_not ?_ | refine br_d (fun h => ?_) (fun h => ?_) | refine br_e (fun h => ?_) (fun h => ?_) | refine br_n (fun h => ?_) (fun h => ?_) | refine drw (by kernel_rfl) ?_ | refine stop ?_)
  all_goals refine Stop.mk ?_
  all_goals try (exfalso; omega)
  refine call_fn [0, 1] (wout_fn _ U (by omega)) rfl ⟨rfl, rfl, trivial⟩ (by decide) ?_
  rintro sv H' G' ⟨rfl, rfl, rfl⟩ -
  refine ⟨by simp [wrH], ?_⟩
  repeat' ((fail_if_success with_reducible refine Stop.mk ?_); (conv => whnf); with_reducible first | refine br_t ?_ | refine br_f ?_ | refine br_nn ?_ | refine br_ns ?_ | refine br_not ?_ | refine br_d (fun h => ?_) (fun h => ?_) | refine br_e (fun h => ?_) (fun h => ?_) | refine br_n (fun h => ?_) (fun h => ?_) | refine drw (by kernel_rfl) ?_ | refine stop ?_)
  all_goals refine Stop.mk ?_
  all_goals try (exfalso; omega)
  refine fin_id hE 0 rfl rfl rfl rfl ⟨?_, rfl⟩
  exact congrArg (fun b => SV.v (.bool b)) (beq_self_eq_true _)
end Go.Proofs.Ytihnbkoeaaepiaa.Cu
