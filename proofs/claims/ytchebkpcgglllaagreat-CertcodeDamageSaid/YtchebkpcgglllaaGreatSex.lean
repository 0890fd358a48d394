/- Sex: Se3, Se4, Se5 in one text. -/
import Derived.Test.YtchebkpcgglllaaGreatSe2
import Derived.Test.YtchebkpcgglllaaGreatVTx
namespace Go.Proofs.YtchebkpcgglllaaGreat.Cu
open Go Go.SX Go.Proofs.YtchebkpcgglllaaGreat.VT
set_option maxRecDepth 100000
set_option linter.unusedVariables false
set_option linter.unusedSimpArgs false

theorem rowB_app (l m : List Int) : Ob.row 5 1 (l.length + m.length) (byts l ++ byts m) = rowB (l ++ m) := by unfold rowB; rw [List.length_append, byts_app]
def oneB (i : Int) (c : List Int) : List Int := i :: (putB c.length ++ c)
theorem rone_fn (G : Gh) (A : Option Addr) (c : Nat) (i : Int) (l : List Int) (hl : SlB G A c l) (h : l.length ≤ 100000000) :
    Ct Tryz.prog 97 [.v (.int .u8 i), .v (.slice A l.length c)] [] G fun sv H' G' => sv = .s 0 ∧ H' = [rowB (oneB i l)] := by
  refine fn_of follows [] Tryz.func97 rfl rfl fun E hE => ?_
  repeat' ((fail_if_success with_reducible refine Stop.mk ?_);(conv=>whnf);with_reducible first|refine br_t ?_|refine br_f ?_|refine br_nn ?_|refine br_ns ?_|refine br_not ?_|refine br_d (fun h=>?_) fun h=>?_|refine br_e (fun h=>?_) fun h=>?_|refine br_n (fun h=>?_) fun h=>?_|refine drw (by kernel_rfl) ?_|refine chk (by kernel_rfl) ?_|refine stop ?_)
  all_goals refine Stop.mk ?_
  rw [u64_in (n := (l.length : Int)) (by omega) (by omega)]
  refine call_fn [] (rput_fn _ l.length (by omega)) rfl trivial (by decide) ?_
  rintro sv H' G' ⟨rfl, rfl, rfl⟩ -
  refine ⟨Nat.le_of_ble_eq_true rfl, ?_⟩
  have hp := putB_len l.length
  repeat' ((fail_if_success with_reducible refine Stop.mk ?_);(conv=>whnf);with_reducible first|refine br_t ?_|refine br_f ?_|refine br_nn ?_|refine br_ns ?_|refine br_not ?_|refine br_d (fun h=>?_) fun h=>?_|refine br_e (fun h=>?_) fun h=>?_|refine br_n (fun h=>?_) fun h=>?_|refine drw (by kernel_rfl) ?_|refine chk (by kernel_rfl) ?_|refine stop ?_)
  all_goals refine Stop.mk ?_
  refine ⟨byts_one _, ⟨by show (1 + (putB l.length).length) * 1 ≤ _; omega, ?_⟩⟩
  repeat' ((fail_if_success with_reducible refine Stop.mk ?_);(conv=>whnf);with_reducible first|refine br_t ?_|refine br_f ?_|refine br_nn ?_|refine br_ns ?_|refine br_not ?_|refine br_d (fun h=>?_) fun h=>?_|refine br_e (fun h=>?_) fun h=>?_|refine br_n (fun h=>?_) fun h=>?_|refine drw (by kernel_rfl) ?_|refine chk (by kernel_rfl) ?_|refine stop ?_)
  all_goals refine Stop.mk ?_
  refine ⟨_, hl, ⟨by show (1 + (putB l.length).length + l.length) * 1 ≤ _; omega, ?_⟩⟩
  repeat' ((fail_if_success with_reducible refine Stop.mk ?_);(conv=>whnf);with_reducible first|refine br_t ?_|refine br_f ?_|refine br_nn ?_|refine br_ns ?_|refine br_not ?_|refine br_d (fun h=>?_) fun h=>?_|refine br_e (fun h=>?_) fun h=>?_|refine br_n (fun h=>?_) fun h=>?_|refine drw (by kernel_rfl) ?_|refine chk (by kernel_rfl) ?_|refine stop ?_)
  all_goals refine Stop.mk ?_
  refine fin_mk hE [0] (.s 0) [rowB (oneB i l)] rfl ⟨?_, trivial⟩ rfl ⟨rfl, rfl⟩
  show some _ = some _
  rw [show oneB i l = ([i] ++ putB l.length) ++ l by simp [oneB], ← rowB_app, List.length_append, byts_app]
  rfl
set_option maxHeartbeats 8000000 in
theorem rpack_fn (G : Gh) (A B : Option Addr) (c c2 : Nat) (is : List Int) (cs : List (List Int)) (hids : kB.S G A c is) (hcs : kBs.S G B c2 cs) (hll : is.length = cs.length) (h1 : cs.length ≤ 10000) (h2 : total cs ≤ 500000) :
    Ct Tryz.prog 46 [.v (.slice A is.length c), .v (.slice B cs.length c2)] [] G fun sv H' G' => sv = .s 0 ∧ H' = [rowB (packB is cs)] := by
  refine fn_of follows [(5, (.cons 0 [] (.cons 1 [] (.cons 2 [] (.cons 3 [] (.cons 4 [] (.cons 5 [] (.cons 6 [] (.cons 7 [] (.cons 8 [] (.cons 9 [4, 8] (.cons 10 [4, 8] (.cons 11 [] .nil)))))))))))))] Tryz.func46 rfl rfl fun E hE => ?_
  have hcap := hids.cap
  repeat' ((fail_if_success with_reducible refine Stop.mk ?_);(conv=>whnf);with_reducible first|refine br_t ?_|refine br_f ?_|refine br_nn ?_|refine br_ns ?_|refine br_not ?_|refine br_d (fun h=>?_) fun h=>?_|refine br_e (fun h=>?_) fun h=>?_|refine br_n (fun h=>?_) fun h=>?_|refine drw (by kernel_rfl) ?_|refine chk (by kernel_rfl) ?_|refine stop ?_)
  all_goals refine Stop.mk ?_
  refine loop_gh (gh_birth 5 5 1 rfl) ?_
  rintro _ _ ⟨rfl, rfl⟩
  refine loop_vars follows [(5, (.cons 0 [] (.cons 1 [] (.cons 2 [] (.cons 3 [] (.cons 4 [] (.cons 5 [] (.cons 6 [] (.cons 7 [] (.cons 8 [] (.cons 9 [4, 8] (.cons 10 [4, 8] (.cons 11 [] .nil)))))))))))))] (α := Nat × Gh) (fun x => [(5, .s 0), (6, .v (.int .i64 x.1))]) (fun x => [rowB (packB (is.take x.1) (cs.take x.1))]) (fun x => x.2) (fun x => x.1 ≤ cs.length ∧ kB.S x.2 A c is ∧ kBs.S x.2 B c2 cs) (fun x => cs.length - x.1) (0, G)
    ⟨Nat.zero_le _, hids, hcs⟩ ?_ rfl ?_ ?_
  · simp only [List.take_zero, packB]; rfl
  ·
    refine ⟨?_⟩
    (conv => whnf)
    (repeat' (first | exact trivial | exact .inl rfl | exact .inr rfl | refine And.intro ?_ ?_))
  rintro ⟨k, Gk⟩ ⟨hk, hids, hcs⟩
  dsimp only at hk hids hcs ⊢
  have hw2 : IntKind.i64.wrap ((k : Int) + 1) = ((k + 1 : Nat) : Int) := by rw [i64_in (by omega) (by omega)]; simp
  have hlen : (packB (is.take k) (cs.take k)).length ≤ 11 * k + 500000 := by
    rw [packB_len _ _ (by rw [List.length_take, List.length_take]; omega)]
    have := sizeB_le (cs.take k)
    have := total_le cs k
    rw [List.length_take] at *
    omega
  repeat' ((fail_if_success with_reducible refine Stop.mk ?_);(conv=>whnf);with_reducible first|refine br_t ?_|refine br_f ?_|refine br_nn ?_|refine br_ns ?_|refine br_not ?_|refine br_d (fun h=>?_) fun h=>?_|refine br_e (fun h=>?_) fun h=>?_|refine br_n (fun h=>?_) fun h=>?_|refine drw (by kernel_rfl) ?_|refine chk (by kernel_rfl) ?_|refine stop ?_)
  all_goals refine Stop.mk ?_
  ·
    obtain ⟨_, hs_, hat_⟩ := hids.at (sz := 1) rfl
    refine ⟨⟨by omega, by omega⟩, _, hs_, fun ad had hadr => ?_⟩
    obtain ⟨i, cells, hi, hRi, hGi⟩ := hat_ k (by omega) ad (by first | exact had | (rw [Int.toNat_natCast] at had; exact had))
    clear had hat_ hs_
    obtain ⟨rfl, hir⟩ := hRi
    repeat' ((fail_if_success with_reducible refine Stop.mk ?_);(conv=>whnf);with_reducible first|refine br_t ?_|refine br_f ?_|refine br_nn ?_|refine br_ns ?_|refine br_not ?_|refine br_d (fun h=>?_) fun h=>?_|refine br_e (fun h=>?_) fun h=>?_|refine br_n (fun h=>?_) fun h=>?_|refine drw (by kernel_rfl) ?_|refine chk (by kernel_rfl) ?_|refine stop ?_)
    all_goals refine Stop.mk ?_
    refine ⟨_, ld1 hGi, ?_⟩
    repeat' ((fail_if_success with_reducible refine Stop.mk ?_);(conv=>whnf);with_reducible first|refine br_t ?_|refine br_f ?_|refine br_nn ?_|refine br_ns ?_|refine br_not ?_|refine br_d (fun h=>?_) fun h=>?_|refine br_e (fun h=>?_) fun h=>?_|refine br_n (fun h=>?_) fun h=>?_|refine drw (by kernel_rfl) ?_|refine chk (by kernel_rfl) ?_|refine stop ?_)
    all_goals refine Stop.mk ?_
    obtain ⟨_, hs_, hat_⟩ := hcs.at (sz := 1) rfl
    refine ⟨⟨by omega, by omega⟩, _, hs_, fun ad had hadr => ?_⟩
    obtain ⟨x, cells, hx, hRx, hGx⟩ := hat_ k (by omega) ad (by first | exact had | (rw [Int.toNat_natCast] at had; exact had))
    clear had hat_ hs_
    obtain ⟨A', c', rfl, hs, hb⟩ := kBs_R hRx
    have htot := total_mem hx
    repeat' ((fail_if_success with_reducible refine Stop.mk ?_);(conv=>whnf);with_reducible first|refine br_t ?_|refine br_f ?_|refine br_nn ?_|refine br_ns ?_|refine br_not ?_|refine br_d (fun h=>?_) fun h=>?_|refine br_e (fun h=>?_) fun h=>?_|refine br_n (fun h=>?_) fun h=>?_|refine drw (by kernel_rfl) ?_|refine chk (by kernel_rfl) ?_|refine stop ?_)
    all_goals refine Stop.mk ?_
    refine ⟨_, ld1 hGx, ?_⟩
    repeat' ((fail_if_success with_reducible refine Stop.mk ?_);(conv=>whnf);with_reducible first|refine br_t ?_|refine br_f ?_|refine br_nn ?_|refine br_ns ?_|refine br_not ?_|refine br_d (fun h=>?_) fun h=>?_|refine br_e (fun h=>?_) fun h=>?_|refine br_n (fun h=>?_) fun h=>?_|refine drw (by kernel_rfl) ?_|refine chk (by kernel_rfl) ?_|refine stop ?_)
    all_goals refine Stop.mk ?_
    refine call_fn [] (rone_fn _ A' c' i x hs (by omega)) rfl trivial (by decide) ?_
    rintro sv H' G' ⟨rfl, rfl⟩ hg
    refine ⟨Nat.le_of_ble_eq_true rfl, ?_⟩
    replace hids := hids.to hg
    replace hcs := hcs.to hg
    clear hg
    have hol : (oneB i x).length ≤ 11 + x.length := by
      have := putB_len x.length
      simp only [oneB, List.length_cons, List.length_append]; omega
    repeat' ((fail_if_success with_reducible refine Stop.mk ?_);(conv=>whnf);with_reducible first|refine br_t ?_|refine br_f ?_|refine br_nn ?_|refine br_ns ?_|refine br_not ?_|refine br_d (fun h=>?_) fun h=>?_|refine br_e (fun h=>?_) fun h=>?_|refine br_n (fun h=>?_) fun h=>?_|refine drw (by kernel_rfl) ?_|refine chk (by kernel_rfl) ?_|refine stop ?_)
    all_goals refine Stop.mk ?_
    refine ⟨byts_one _, ⟨by show ((packB (is.take k) (cs.take k)).length + (oneB i x).length) * 1 ≤ _; omega, ?_⟩⟩
    repeat' ((fail_if_success with_reducible refine Stop.mk ?_);(conv=>whnf);with_reducible first|refine br_t ?_|refine br_f ?_|refine br_nn ?_|refine br_ns ?_|refine br_not ?_|refine br_d (fun h=>?_) fun h=>?_|refine br_e (fun h=>?_) fun h=>?_|refine br_n (fun h=>?_) fun h=>?_|refine drw (by kernel_rfl) ?_|refine chk (by kernel_rfl) ?_|refine stop ?_)
    all_goals refine Stop.mk ?_
    rw [hw2]
    refine tell_gc hE [0] rfl rfl ?_
    (conv => whnf)
    refine tell_here ⟨(k + 1, _), ⟨by show k + 1 ≤ _; omega, hids, hcs⟩, by show cs.length - (k + 1) < cs.length - k; omega, ?_, rfl, ?_⟩
    · show [rowB _] = _
      rw [packB_take is cs k i x hi hx, show packB (is.take k) (cs.take k) ++ [i] ++ putB x.length ++ x = packB (is.take k) (cs.take k) ++ oneB i x by simp [oneB], ← rowB_app]
      rfl
    ·
      refine ⟨?_⟩
      (conv => whnf)
      (repeat' (first | exact trivial | exact .inl rfl | exact .inr rfl | refine And.intro ?_ ?_))
  · obtain rfl : k = cs.length := by omega
    refine fin_mk hE [0] (.s 0) [rowB (packB is cs)] rfl ⟨?_, trivial⟩ rfl ⟨rfl, rfl⟩
    show some _ = some _
    rw [List.take_length, List.take_of_length_le (by omega)]
    rfl
end Go.Proofs.YtchebkpcgglllaaGreat.Cu

namespace Go.Proofs.YtchebkpcgglllaaGreat.Cu
open Go Go.SX Go.Proofs.YtchebkpcgglllaaGreat.VT
set_option maxRecDepth 100000
set_option linter.unusedVariables false
set_option linter.unusedSimpArgs false

theorem step_err {id : Int} {p : Ps} (h : p.2 ≠ 0) : step1 id p = p ∧ step2 p = p ∧ stepS id p = ([], p) := by
  have h1 : step1 id p = p := by unfold step1; rw [sByte_err h, if_neg (fun hh => h hh.1)]
  have h2 : step2 p = p := by unfold step2; rw [sUint_err h, if_neg (fun hh => h hh.1)]
  refine ⟨h1, h2, ?_⟩
  unfold stepS; rw [h1, h2, sBytes_err h]
theorem splitS_err : ∀ (ids : List Int) (p : Ps), p.2 ≠ 0 → (splitS ids p).2 = p
  | [], p, h => rfl
  | id :: ids, p, h => by
    simp only [splitS, (step_err h).2.2]
    exact splitS_err ids p h
theorem stepS_of1 {id : Int} {p q : Ps} (h1 : step1 id p = q) (h : q.2 ≠ 0) : stepS id p = ([], q) := by
  unfold stepS; rw [h1, (step_err (id := id) h).2.1, sBytes_err h]
theorem stepS_nil (id : Int) : stepS id ([], 0) = ([], ([], 1)) := stepS_of1 (by unfold step1 sByte; simp) (by simp)
theorem stepS_ne {id x : Int} {l : List Int} (h : x ≠ id) : stepS id (x :: l, 0) = ([], (l, 7)) := stepS_of1 (by unfold step1 sByte sFail failE; simp [h]) (by simp)
theorem step1_ok (id : Int) (l : List Int) : step1 id (id :: l, 0) = (l, 0) := by unfold step1 sByte; simp
theorem sUint_max {l : List Int} (hb : isB l) : sUint maxU (l, 0) = if (vdec 0 l).2.2 = 0 then ((vdec 0 l).1, (l.drop (vdec 0 l).2.1.toNat, 0)) else (0, (l, (vdec 0 l).2.2)) := by
  unfold sUint
  simp only [ne_eq, not_true_eq_false, if_false]
  have hw : whyU maxU (vdec 0 l) = (vdec 0 l).2.2 := by
    unfold whyU maxU
    rcases vdec_form hb with ⟨x, hx, h⟩ | ⟨n, m, h, h3, _⟩ <;> rw [h]
    · rw [if_neg (by rintro ⟨h1, _⟩; simp only at h1; omega)]
    · rw [if_neg (by rintro ⟨_, h1⟩; simp only at h1; omega)]
  rw [hw]
theorem stepS_get {id : Int} {l : List Int} (hb : isB l) (h : (vdec 0 l).2.2 ≠ 0) : stepS id (id :: l, 0) = ([], (l, (vdec 0 l).2.2)) := by
  unfold stepS
  have h2 : step2 (l, 0) = (l, (vdec 0 l).2.2) := by
    unfold step2
    rw [sUint_max hb, if_neg h]
    simp only
    rw [if_neg (fun hh => h hh.1)]
  rw [step1_ok, h2, sBytes_err h]
theorem stepS_short {id : Int} {l : List Int} {n m : Nat} (hb : isB l) (h : vdec 0 l = ((n : Int), (m : Int), 0)) (hn : (l.drop m).length < n) : stepS id (id :: l, 0) = ([], (l.drop m, 1)) := by
  unfold stepS
  have h2 : step2 (l, 0) = (l.drop m, 1) := by
    unfold step2
    rw [sUint_max hb, h]
    simp only [if_true, Int.toNat_natCast]
    rw [if_pos ⟨trivial, by unfold sLeft; simp only [if_true]; omega⟩]
    rfl
  rw [step1_ok, h2, sBytes_err (by simp)]
theorem stepS_ok {id : Int} {l : List Int} {n m : Nat} (hb : isB l) (h : vdec 0 l = ((n : Int), (m : Int), 0)) (hn : n ≤ (l.drop m).length) (h64 : (l.drop m).length < 9223372036854775808) : stepS id (id :: l, 0) = ((l.drop m).take n, ((l.drop m).drop n, 0)) := by
  unfold stepS
  have h2 : step2 (l, 0) = (l.drop m, 0) := by
    unfold step2
    rw [sUint_max hb, h]
    simp only [if_true, Int.toNat_natCast]
    rw [if_neg (by rintro ⟨_, hh⟩; unfold sLeft at hh; simp only [if_true] at hh; omega)]
  have h3 : (sUint maxU (l, 0)).1 = (n : Int) := by rw [sUint_max hb, h]; simp
  rw [step1_ok, h2, h3, i64_in (by omega) (by omega)]
  unfold sBytes
  simp only [ne_eq, not_true_eq_false, if_false]
  rw [if_neg (by omega), if_neg (by omega), Int.toNat_natCast]
end Go.Proofs.YtchebkpcgglllaaGreat.Cu

namespace Go.Proofs.YtchebkpcgglllaaGreat.Cu
open Go Go.SX Go.Proofs.YtchebkpcgglllaaGreat.VT
set_option maxRecDepth 100000
set_option linter.unusedVariables false
set_option linter.unusedSimpArgs false

theorem kB_of {G : Gh} {A : Option Addr} {n c sz : Nat} {xs : List Value} (l : List Int) (h : Sl G A n c sz xs) (h1 : n = l.length) (h2 : sz = 1) (h3 : xs = byts l) (hb : isB l) : kB.S G A c l := S_kB (SlB.of l h h1 h2 h3) hb
theorem kBs_of {G : Gh} {A : Option Addr} {n c sz : Nat} {xs : List Value} (ls : List (List Int)) (h : Sl G A n c sz xs) (h1 : n = ls.length) (h2 : sz = 1) (h3 : kBs.Cs G ls xs) : kBs.S G A c ls := Kd.S.of h h1 h2 h3
end Go.Proofs.YtchebkpcgglllaaGreat.Cu
