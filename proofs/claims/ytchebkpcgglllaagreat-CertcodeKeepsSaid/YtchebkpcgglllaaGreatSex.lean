/- Sex: Se3, Se4, Se5 in one text. -/
import Derived.Test.YtchebkpcgglllaaGreatSe2
import Derived.Test.YtchebkpcgglllaaGreatVTx
namespace Go.Proofs.YtchebkpcgglllaaGreat.Cu
open Go Go.SX Go.Proofs.YtchebkpcgglllaaGreat.VT
set_option maxRecDepth 100000
set_option linter.unusedVariables false
set_option linter.unusedSimpArgs false

theorem rowB_app (l m : List Int) : Ob.row 5 1 (l.length + m.length) (byts l ++ byts m) = rowB (l ++ m) := by unfold rowB; rw [List.length_append, byts_app]
def oneB (i : Int) (c : List Int) : List Int := i :: (putB c.length ++ c)
theorem rone_fn (G : Gh) (A : Option Addr) (c : Nat) (i : Int) (l : List Int) (hl : SlB G A c l) (h : l.length ≤ 100000000) :
    Ct Tryz.prog 97 [.v (.int .u8 i), .v (.slice A l.length c)] [] G fun sv H' G' => sv = .s 0 ∧ H' = [rowB (oneB i l)] := by
  refine fn_of follows [] Tryz.func97 rfl rfl fun E hE => ?_
  repeat' ((fail_if_success with_reducible refine Stop.mk ?_);(conv=>whnf);with_reducible refine stop ?_)
  all_goals refine Stop.mk ?_
  rw [u64_in (n := (l.length : Int)) (by omega) (by omega)]
  refine call_fn [] (rput_fn _ l.length (by omega)) rfl trivial (by decide) ?_
  rintro sv H' G' ⟨rfl, rfl, rfl⟩ -
  refine ⟨Nat.le_of_ble_eq_true rfl, ?_⟩
  have hp := putB_len l.length
  repeat' ((fail_if_success with_reducible refine Stop.mk ?_);(conv=>whnf);with_reducible refine stop ?_)
  all_goals refine Stop.mk ?_
  refine ⟨byts_one _, ⟨by show (1 + (putB l.length).length) * 1 ≤ _; omega, ?_⟩⟩
  repeat' ((fail_if_success with_reducible refine Stop.mk ?_);(conv=>whnf);with_reducible refine stop ?_)
  all_goals refine Stop.mk ?_
  refine ⟨_, hl, ⟨by show (1 + (putB l.length).length + l.length) * 1 ≤ _; omega, ?_⟩⟩
  repeat' ((fail_if_success with_reducible refine Stop.mk ?_);(conv=>whnf);with_reducible refine stop ?_)
  all_goals refine Stop.mk ?_
  refine fin_mk hE [0] (.s 0) [rowB (oneB i l)] rfl ⟨?_, trivial⟩ rfl ⟨rfl, rfl⟩
  show some _ = some _
  rw [show oneB i l = ([i] ++ putB l.length) ++ l by simp [oneB], ← rowB_app, List.length_append, byts_app]
  rfl
set_option maxHeartbeats 8000000 in
theorem rpack_fn (G : Gh) (A B : Option Addr) (c c2 : Nat) (is : List Int) (cs : List (List Int)) (hids : kB.S G A c is) (hcs : kBs.S G B c2 cs) (hll : is.length = cs.length) (h1 : cs.length ≤ 10000) (h2 : total cs ≤ 500000) :
    Ct Tryz.prog 46 [.v (.slice A is.length c), .v (.slice B cs.length c2)] [] G fun sv H' G' => sv = .s 0 ∧ H' = [rowB (packB is cs)] := by
  refine fn_of follows [(5, (.cons 0 [] (.cons 1 [] (.cons 2 [] (.cons 3 [] (.cons 4 [] (.cons 5 [] (.cons 6 [] (.cons 7 [] (.cons 8 [] (.cons 9 [4, 8] (.cons 10 [4, 8] (.cons 11 [] .nil)))))))))))))] Tryz.func46 rfl rfl fun E hE => ?_
  have hcap := hids.cap
  repeat' ((fail_if_success with_reducible refine Stop.mk ?_);(conv=>whnf);with_reducible refine stop ?_)
  all_goals refine Stop.mk ?_
  refine loop_gh (gh_birth 5 5 1 rfl) ?_
  rintro _ _ ⟨rfl, rfl⟩
  refine loop_vars follows [(5, (.cons 0 [] (.cons 1 [] (.cons 2 [] (.cons 3 [] (.cons 4 [] (.cons 5 [] (.cons 6 [] (.cons 7 [] (.cons 8 [] (.cons 9 [4, 8] (.cons 10 [4, 8] (.cons 11 [] .nil)))))))))))))] (α := Nat × Gh) (fun x => [(5, .s 0), (6, .v (.int .i64 x.1))]) (fun x => [rowB (packB (is.take x.1) (cs.take x.1))]) (fun x => x.2) (fun x => x.1 ≤ cs.length ∧ kB.S x.2 A c is ∧ kBs.S x.2 B c2 cs) (fun x => cs.length - x.1) (0, G)
    ⟨Nat.zero_le _, hids, hcs⟩ ?_ rfl ?_ ?_
  · simp only [List.take_zero, packB]; rfl
  ·
    refine ⟨?_⟩
    (conv => whnf)
    (repeat' (first | exact trivial | exact .inl rfl | exact .inr rfl | refine And.intro ?_ ?_))
  rintro ⟨k, Gk⟩ ⟨hk, hids, hcs⟩
  dsimp only at hk hids hcs ⊢
  have hw2 : IntKind.i64.wrap ((k : Int) + 1) = ((k + 1 : Nat) : Int) := by rw [i64_in (by omega) (by omega)]; simp
  have hlen : (packB (is.take k) (cs.take k)).length ≤ 11 * k + 500000 := by
    rw [packB_len _ _ (by rw [List.length_take, List.length_take]; omega)]
    have := sizeB_le (cs.take k)
    have := total_le cs k
    rw [List.length_take] at *
    omega
  repeat' ((fail_if_success with_reducible refine Stop.mk ?_);(conv=>whnf);with_reducible first|refine br_d (fun h=>?_) fun h=>?_|refine drw (by kernel_rfl) ?_|refine stop ?_)
  all_goals refine Stop.mk ?_
  ·
    obtain ⟨_, hs_, hat_⟩ := hids.at (sz := 1) rfl
    refine ⟨⟨by omega, by omega⟩, _, hs_, fun ad had hadr => ?_⟩
    obtain ⟨i, cells, hi, hRi, hGi⟩ := hat_ k (by omega) ad (by first | exact had | (rw [Int.toNat_natCast] at had; exact had))
    clear had hat_ hs_
    obtain ⟨rfl, hir⟩ := hRi
    repeat' ((fail_if_success with_reducible refine Stop.mk ?_);(conv=>whnf);with_reducible refine stop ?_)
    all_goals refine Stop.mk ?_
    refine ⟨_, ld1 hGi, ?_⟩
    repeat' ((fail_if_success with_reducible refine Stop.mk ?_);(conv=>whnf);with_reducible refine stop ?_)
    all_goals refine Stop.mk ?_
    obtain ⟨_, hs_, hat_⟩ := hcs.at (sz := 1) rfl
    refine ⟨⟨by omega, by omega⟩, _, hs_, fun ad had hadr => ?_⟩
    obtain ⟨x, cells, hx, hRx, hGx⟩ := hat_ k (by omega) ad (by first | exact had | (rw [Int.toNat_natCast] at had; exact had))
    clear had hat_ hs_
    obtain ⟨A', c', rfl, hs, hb⟩ := kBs_R hRx
    have htot := total_mem hx
    repeat' ((fail_if_success with_reducible refine Stop.mk ?_);(conv=>whnf);with_reducible refine stop ?_)
    all_goals refine Stop.mk ?_
    refine ⟨_, ld1 hGx, ?_⟩
    repeat' ((fail_if_success with_reducible refine Stop.mk ?_);(conv=>whnf);with_reducible refine stop ?_)
    all_goals refine Stop.mk ?_
    refine call_fn [] (rone_fn _ A' c' i x hs (by omega)) rfl trivial (by decide) ?_
    rintro sv H' G' ⟨rfl, rfl⟩ hg
    refine ⟨Nat.le_of_ble_eq_true rfl, ?_⟩
    replace hids := hids.to hg
    replace hcs := hcs.to hg
    clear hg
    have hol : (oneB i x).length ≤ 11 + x.length := by
      have := putB_len x.length
      simp only [oneB, List.length_cons, List.length_append]; omega
    repeat' ((fail_if_success with_reducible refine Stop.mk ?_);(conv=>whnf);with_reducible refine stop ?_)
    all_goals refine Stop.mk ?_
    refine ⟨byts_one _, ⟨by show ((packB (is.take k) (cs.take k)).length + (oneB i x).length) * 1 ≤ _; omega, ?_⟩⟩
    repeat' ((fail_if_success with_reducible refine Stop.mk ?_);(conv=>whnf);with_reducible refine stop ?_)
    all_goals refine Stop.mk ?_
    rw [hw2]
    refine tell_gc hE [0] rfl rfl ?_
    (conv => whnf)
    refine tell_here ⟨(k + 1, _), ⟨by show k + 1 ≤ _; omega, hids, hcs⟩, by show cs.length - (k + 1) < cs.length - k; omega, ?_, rfl, ?_⟩
    · show [rowB _] = _
      rw [packB_take is cs k i x hi hx, show packB (is.take k) (cs.take k) ++ [i] ++ putB x.length ++ x = packB (is.take k) (cs.take k) ++ oneB i x by simp [oneB], ← rowB_app]
      rfl
    ·
      refine ⟨?_⟩
      (conv => whnf)
      (repeat' (first | exact trivial | exact .inl rfl | exact .inr rfl | refine And.intro ?_ ?_))
  · obtain rfl : k = cs.length := by omega
    refine fin_mk hE [0] (.s 0) [rowB (packB is cs)] rfl ⟨?_, trivial⟩ rfl ⟨rfl, rfl⟩
    show some _ = some _
    rw [List.take_length, List.take_of_length_le (by omega)]
    rfl
end Go.Proofs.YtchebkpcgglllaaGreat.Cu

namespace Go.Proofs.YtchebkpcgglllaaGreat.Cu
open Go Go.SX Go.Proofs.YtchebkpcgglllaaGreat.VT
set_option maxRecDepth 100000
set_option linter.unusedVariables false
set_option linter.unusedSimpArgs false

theorem step_err {id : Int} {p : Ps} (h : p.2 ≠ 0) : step1 id p = p ∧ step2 p = p ∧ stepS id p = ([], p) := by
  have h1 : step1 id p = p := by unfold step1; rw [sByte_err h, if_neg (fun hh => h hh.1)]
  have h2 : step2 p = p := by unfold step2; rw [sUint_err h, if_neg (fun hh => h hh.1)]
  refine ⟨h1, h2, ?_⟩
  unfold stepS; rw [h1, h2, sBytes_err h]
theorem splitS_err : ∀ (ids : List Int) (p : Ps), p.2 ≠ 0 → (splitS ids p).2 = p
  | [], p, h => rfl
  | id :: ids, p, h => by
    simp only [splitS, (step_err h).2.2]
    exact splitS_err ids p h
theorem stepS_of1 {id : Int} {p q : Ps} (h1 : step1 id p = q) (h : q.2 ≠ 0) : stepS id p = ([], q) := by
  unfold stepS; rw [h1, (step_err (id := id) h).2.1, sBytes_err h]
theorem stepS_nil (id : Int) : stepS id ([], 0) = ([], ([], 1)) := stepS_of1 (by unfold step1 sByte; simp) (by simp)
theorem stepS_ne {id x : Int} {l : List Int} (h : x ≠ id) : stepS id (x :: l, 0) = ([], (l, 7)) := stepS_of1 (by unfold step1 sByte sFail failE; simp [h]) (by simp)
theorem step1_ok (id : Int) (l : List Int) : step1 id (id :: l, 0) = (l, 0) := by unfold step1 sByte; simp
theorem sUint_max {l : List Int} (hb : isB l) : sUint maxU (l, 0) = if (vdec 0 l).2.2 = 0 then ((vdec 0 l).1, (l.drop (vdec 0 l).2.1.toNat, 0)) else (0, (l, (vdec 0 l).2.2)) := by
  unfold sUint
  simp only [ne_eq, not_true_eq_false, if_false]
  have hw : whyU maxU (vdec 0 l) = (vdec 0 l).2.2 := by
    unfold whyU maxU
    rcases vdec_form hb with ⟨x, hx, h⟩ | ⟨n, m, h, h3, _⟩ <;> rw [h]
    · rw [if_neg (by rintro ⟨h1, _⟩; simp only at h1; omega)]
    · rw [if_neg (by rintro ⟨_, h1⟩; simp only at h1; omega)]
  rw [hw]
theorem stepS_get {id : Int} {l : List Int} (hb : isB l) (h : (vdec 0 l).2.2 ≠ 0) : stepS id (id :: l, 0) = ([], (l, (vdec 0 l).2.2)) := by
  unfold stepS
  have h2 : step2 (l, 0) = (l, (vdec 0 l).2.2) := by
    unfold step2
    rw [sUint_max hb, if_neg h]
    simp only
    rw [if_neg (fun hh => h hh.1)]
  rw [step1_ok, h2, sBytes_err h]
theorem stepS_short {id : Int} {l : List Int} {n m : Nat} (hb : isB l) (h : vdec 0 l = ((n : Int), (m : Int), 0)) (hn : (l.drop m).length < n) : stepS id (id :: l, 0) = ([], (l.drop m, 1)) := by
  unfold stepS
  have h2 : step2 (l, 0) = (l.drop m, 1) := by
    unfold step2
    rw [sUint_max hb, h]
    simp only [if_true, Int.toNat_natCast]
    rw [if_pos ⟨trivial, by unfold sLeft; simp only [if_true]; omega⟩]
    rfl
  rw [step1_ok, h2, sBytes_err (by simp)]
theorem stepS_ok {id : Int} {l : List Int} {n m : Nat} (hb : isB l) (h : vdec 0 l = ((n : Int), (m : Int), 0)) (hn : n ≤ (l.drop m).length) (h64 : (l.drop m).length < 9223372036854775808) : stepS id (id :: l, 0) = ((l.drop m).take n, ((l.drop m).drop n, 0)) := by
  unfold stepS
  have h2 : step2 (l, 0) = (l.drop m, 0) := by
    unfold step2
    rw [sUint_max hb, h]
    simp only [if_true, Int.toNat_natCast]
    rw [if_neg (by rintro ⟨_, hh⟩; unfold sLeft at hh; simp only [if_true] at hh; omega)]
  have h3 : (sUint maxU (l, 0)).1 = (n : Int) := by rw [sUint_max hb, h]; simp
  rw [step1_ok, h2, h3, i64_in (by omega) (by omega)]
  unfold sBytes
  simp only [ne_eq, not_true_eq_false, if_false]
  rw [if_neg (by omega), if_neg (by omega), Int.toNat_natCast]
theorem splitR_err {ids b : List Int} {k : Nat} {id : Int} {outs : List (List Int)} {p : Ps} {x : List Int} {l : List Int} {e : Int} (hk : splitS (ids.take k) (b, 0) = (outs, p)) (hid : ids[k]? = some id) (hst : stepS id p = (x, (l, e))) (he : e ≠ 0) : (splitR ids b).2 = e := by
  have hsp : splitS (ids.take (k + 1)) (b, 0) = (outs ++ [x], (l, e)) := by rw [splitS_take ids k id (b, 0) hid, hk]; simp only; rw [hst]
  have happ : ∀ (l1 l2 : List Int) (p : Ps), (splitS (l1 ++ l2) p).2 = (splitS l2 (splitS l1 p).2).2 := by
    intro l1
    induction l1 with
    | nil => intro l2 p; rfl
    | cons a l1 ih => intro l2 p; simp only [List.cons_append, splitS]; exact ih l2 _
  have h1 := happ (ids.take (k + 1)) (ids.drop (k + 1)) (b, 0)
  rw [List.take_append_drop, hsp] at h1
  simp only at h1
  rw [splitS_err _ (l, e) he] at h1
  unfold splitR
  simp only
  rw [h1]
  unfold sEnd sLeft
  simp [he]
set_option maxHeartbeats 8000000 in
theorem rsplit_fn (G : Gh) (A B : Option Addr) (c c2 : Nat) (b ids : List Int) (hbb : isB b) (hb : SlB G A c b) (hids : kB.S G B c2 ids) (h1 : ids.length ≤ 10000) (h2 : b.length ≤ 1000000000) :
    Ct Tryz.prog 34 [.v (.slice A b.length c), .v (.slice B ids.length c2)] [] G (SplitPost ids b) := by
  refine fn_of follows [(8, (.cons 0 [] (.cons 1 [] (.cons 2 [] (.cons 3 [] (.cons 4 [] (.cons 5 [] (.cons 6 [] (.cons 7 [] (.cons 8 [] .nil))))))))))] Tryz.func34 rfl rfl fun E hE => ?_
  have hcap := hb.cap
  have htop := hb.top
  repeat' ((fail_if_success with_reducible refine Stop.mk ?_);(conv=>whnf);with_reducible refine stop ?_)
  all_goals refine Stop.mk ?_
  refine loop_gh (gh_birth 6 22 1 rfl) ?_
  rintro _ _ ⟨rfl, rfl⟩
  refine loop_vars follows [(8, (.cons 0 [] (.cons 1 [] (.cons 2 [] (.cons 3 [] (.cons 4 [] (.cons 5 [] (.cons 6 [] (.cons 7 [] (.cons 8 [] .nil))))))))))] (α := Nat × Nat × List Value) (fun x => [(6, .s 0), (7, .v (.int .i64 x.2.1)), (8, .v (.int .i64 x.1))]) (fun x => [.row 22 1 x.1 x.2.2]) (fun x => G)
    (fun x => x.1 ≤ ids.length ∧ x.2.1 ≤ b.length ∧ (splitS (ids.take x.1) (b, 0)).2 = (b.drop x.2.1, 0) ∧ kBs.Cs G (splitS (ids.take x.1) (b, 0)).1 x.2.2) (fun x => ids.length - x.1) (0, 0, [])
    ⟨Nat.zero_le _, Nat.zero_le _, rfl, Kd.Cs.nil _ _⟩ rfl rfl ?_ ?_
  ·
    refine ⟨?_⟩
    (conv => whnf)
    (repeat' (first | exact trivial | exact .inl rfl | exact .inr rfl | refine And.intro ?_ ?_))
  rintro ⟨k, a, vals⟩ ⟨hk, ha, hp, hv⟩
  dsimp only at hk ha hp hv ⊢
  have hw2 : IntKind.i64.wrap ((k : Int) + 1) = ((k + 1 : Nat) : Int) := by rw [i64_in (by omega) (by omega)]; simp
  have hw3 : IntKind.i64.wrap ((a : Int) + 1) = ((a + 1 : Nat) : Int) := by rw [i64_in (by omega) (by omega)]; simp
  have hsplit := fun id => splitS_take ids k id (b, 0)
  have hvl : (splitS (ids.take k) (b, 0)).1.length = k := by rw [splitS_len, List.length_take]; omega
  generalize hsp : splitS (ids.take k) (b, 0) = sp at *
  obtain ⟨outs, p⟩ := sp
  dsimp only at hp hv hsplit hvl ⊢
  subst hp
  repeat' ((fail_if_success with_reducible refine Stop.mk ?_);(conv=>whnf);with_reducible first|refine br_d (fun h=>?_) fun h=>?_|refine br_e (fun h=>?_) fun h=>?_|refine drw (by kernel_rfl) ?_|refine stop ?_)
  all_goals refine Stop.mk ?_
  · have hid := List.getElem?_eq_getElem (show k < ids.length by omega)
    have hR := splitR_err (x := []) (l := []) (e := 1) hsp hid (by rw [List.drop_eq_nil_of_le (by omega)]; exact stepS_nil _) (by decide)
    refine fin_id hE 0 rfl rfl rfl rfl ?_
    unfold SplitPost
    rw [hR, if_neg (by decide)]
    exact ⟨rfl, rfl⟩
  · refine ⟨⟨by omega, by omega⟩, _, hb, fun ad had hadr => ?_⟩
    repeat' ((fail_if_success with_reducible refine Stop.mk ?_);(conv=>whnf);with_reducible refine stop ?_)
    all_goals refine Stop.mk ?_
    refine ⟨_, el1 had (by omega), ?_⟩
    rw [Int.toNat_natCast]
    repeat' ((fail_if_success with_reducible refine Stop.mk ?_);(conv=>whnf);with_reducible refine stop ?_)
    all_goals refine Stop.mk ?_
    obtain ⟨_, hs_, hat_⟩ := hids.at (sz := 1) rfl
    refine ⟨⟨by omega, by omega⟩, _, hs_, fun ad had hadr => ?_⟩
    obtain ⟨id, cells, hid, hRid, hGid⟩ := hat_ k (by omega) ad (by first | exact had | (rw [Int.toNat_natCast] at had; exact had))
    clear had hat_ hs_
    obtain ⟨rfl, hir⟩ := hRid
    have hda := drop_at (xs := b) (i := a) (by omega)
    repeat' ((fail_if_success with_reducible refine Stop.mk ?_);(conv=>whnf);with_reducible refine stop ?_)
    all_goals refine Stop.mk ?_
    refine ⟨_, ld1 hGid, ?_⟩
    have hs' : ∀ A', A' = (if c = a + 1 then A else A.map (·.add ((a + 1) * 1))) → SlB G A' (c - (a + 1)) (b.drop (a + 1)) := fun A' hA' => slB_drop hb (a + 1) (by omega) hA'
    have hl : (b.drop (a + 1)).length = b.length - (a + 1) := by simp
    have hbd := isB_drop hbb (a + 1)
    generalize hx : b.getD a 0 = x at *
    repeat' ((fail_if_success with_reducible refine Stop.mk ?_);(conv=>whnf);with_reducible first|refine br_n (fun h=>?_) fun h=>?_|refine stop ?_)
    all_goals refine Stop.mk ?_
    · have hxi : x = id := by assumption
      subst hxi
      rw [hda] at hsp
      rw [hw3]
      refine ⟨⟨by omega, by omega⟩, fun A' hA' => ?_⟩
      rw [Int.toNat_natCast] at hA' ⊢
      have hs1 := hs' A' hA'
      rw [show b.length - (a + 1) = (b.drop (a + 1)).length by simp]
      repeat' ((fail_if_success with_reducible refine Stop.mk ?_);(conv=>whnf);with_reducible refine stop ?_)
      all_goals refine Stop.mk ?_
      refine call_fn [] (refGet_fn _ A' (c - (a + 1)) (b.drop (a + 1)) hbd hs1) rfl trivial (by decide) ?_
      rintro sv H' G' ⟨rfl, rfl, rfl⟩ -
      refine ⟨Nat.le_of_ble_eq_true rfl, ?_⟩
      unfold getR
      have hform := vdec_form hbd
      have hget := stepS_get (id := x) hbd
      have hshort := fun n m => stepS_short (id := x) (n := n) (m := m) hbd
      have hok := fun n m => stepS_ok (id := x) (n := n) (m := m) hbd
      generalize vdec 0 (b.drop (a + 1)) = d at *
      repeat' ((fail_if_success with_reducible refine Stop.mk ?_);(conv=>whnf);with_reducible first|refine br_d (fun h=>?_) fun h=>?_|refine br_n (fun h=>?_) fun h=>?_|refine stop ?_)
      all_goals refine Stop.mk ?_
      · rcases hform with ⟨e, he, hd⟩ | ⟨n, m, hd, h3, h4, h5, h6, h7⟩
        · have h1 : d.2.2 = 0 := by assumption
          rw [hd] at h1; simp only at h1; omega
        · subst hd
          dsimp only at h hget hshort hok ⊢
          have e1 : IntKind.i64.wrap (((a + 1 : Nat) : Int) + (m : Int)) = ((a + 1 + m : Nat) : Int) := by rw [i64_in (by omega) (by omega)]; simp
          rw [e1] at h ⊢
          have e2 : IntKind.u64.wrap (IntKind.i64.wrap ((b.length : Int) - ((a + 1 + m : Nat) : Int))) = ((b.length - (a + 1 + m) : Nat) : Int) := by rw [i64_in (by omega) (by omega), u64_in (by omega) (by omega)]; omega
          rw [e2] at h
          have hR := splitR_err (x := []) (l := (b.drop (a + 1)).drop m) (e := 1) hsp hid (by exact hshort n m rfl (by rw [List.length_drop]; omega)) (by decide)
          refine fin_id hE 0 rfl rfl rfl rfl ?_
          unfold SplitPost
          rw [hR, if_neg (by decide)]
          exact ⟨rfl, rfl⟩
      · rcases hform with ⟨e, he, hd⟩ | ⟨n, m, hd, h3, h4, h5, h6, h7⟩
        · have h1 : d.2.2 = 0 := by assumption
          rw [hd] at h1; simp only at h1; omega
        · subst hd
          dsimp only at h hget hshort hok ⊢
          have e1 : IntKind.i64.wrap (((a + 1 : Nat) : Int) + (m : Int)) = ((a + 1 + m : Nat) : Int) := by rw [i64_in (by omega) (by omega)]; simp
          rw [e1] at h ⊢
          have e2 : IntKind.u64.wrap (IntKind.i64.wrap ((b.length : Int) - ((a + 1 + m : Nat) : Int))) = ((b.length - (a + 1 + m) : Nat) : Int) := by rw [i64_in (by omega) (by omega), u64_in (by omega) (by omega)]; omega
          rw [e2] at h
          have e3 : IntKind.i64.wrap (n : Int) = n := i64_in (by omega) (by omega)
          have e4 : IntKind.i64.wrap (((a + 1 + m : Nat) : Int) + (n : Int)) = ((a + 1 + m + n : Nat) : Int) := by rw [i64_in (by omega) (by omega)]; simp
          rw [e3, e4]
          have hst := hok n m rfl (by rw [List.length_drop]; omega) (by rw [List.length_drop]; omega)
          replace hsplit := hsplit x hid
          rw [hda, hst, List.drop_drop, List.drop_drop] at hsplit
          refine ⟨⟨by omega, by omega⟩, ?_⟩
          repeat' ((fail_if_success with_reducible refine Stop.mk ?_);(conv=>whnf);with_reducible refine stop ?_)
          all_goals refine Stop.mk ?_
          refine ⟨⟨by omega, by omega⟩, fun A2 hA2 => ?_⟩
          rw [Int.toNat_natCast] at hA2
          simp only [Int.toNat_natCast]
          have hs2 := slB_drop hb (a + 1 + m) (by omega) hA2
          have hs3 := slB_take hs2 n (by rw [List.length_drop]; omega)
          have hlt : ((b.drop (a + 1 + m)).take n).length = n := by rw [List.length_take, List.length_drop]; omega
          rw [show a + 1 + m + n - (a + 1 + m) = n by omega]
          repeat' ((fail_if_success with_reducible refine Stop.mk ?_);(conv=>whnf);with_reducible refine stop ?_)
          all_goals refine Stop.mk ?_
          refine ⟨by simp [Value.oneCell'], ⟨by show (k + 1) * 24 ≤ _; omega, ?_⟩⟩
          repeat' ((fail_if_success with_reducible refine Stop.mk ?_);(conv=>whnf);with_reducible refine stop ?_)
          all_goals refine Stop.mk ?_
          rw [hw2]
          try rw [e3, e4]
          refine tell_gc hE [0] rfl rfl ?_
          (conv => whnf)
          refine tell_here ⟨(k + 1, a + 1 + m + n, vals ++ [.slice A2 n (c - (a + 1 + m))]), ⟨by show k + 1 ≤ _; omega, by show a + 1 + m + n ≤ _; omega, ?_, ?_⟩, by show ids.length - (k + 1) < ids.length - k; omega, rfl, rfl, ?_⟩
          · show (splitS (ids.take (k + 1)) (b, 0)).2 = _
            rw [hsplit]
          · show kBs.Cs _ (splitS (ids.take (k + 1)) (b, 0)).1 _
            rw [hsplit]
            refine hv.snoc ?_
            have := R_kBs (A := A2) (c := c - (a + 1 + m)) (l := (b.drop (a + 1 + m)).take n) (by unfold SlB; rw [hlt]; exact hs3) (isB_take (isB_drop hbb _) _)
            rw [hlt] at this
            exact this
          ·
            refine ⟨?_⟩
            (conv => whnf)
            (repeat' (first | exact trivial | exact .inl rfl | exact .inr rfl | refine And.intro ?_ ?_))
      · rcases hform with ⟨e, he, hd⟩ | ⟨n, m, hd, h3, h4, h5, h6, h7⟩
        · have hne : d.2.2 ≠ 0 := by assumption
          have hR := splitR_err (x := []) (l := b.drop (a + 1)) (e := d.2.2) hsp hid (by exact hget hne) hne
          refine fin_id hE 0 rfl rfl rfl rfl ?_
          unfold SplitPost
          rw [hR, if_neg hne]
          exact ⟨rfl, rfl⟩
        · have h1 : d.2.2 ≠ 0 := by assumption
          rw [hd] at h1; exact absurd rfl h1
    · have hR := splitR_err (x := []) (l := b.drop (a + 1)) (e := 7) hsp hid (by rw [hda]; exact stepS_ne (by assumption)) (by decide)
      refine fin_id hE 0 rfl rfl rfl rfl ?_
      unfold SplitPost
      rw [hR, if_neg (by decide)]
      exact ⟨rfl, rfl⟩
  all_goals
    obtain rfl : k = ids.length := by omega
    rw [List.take_length] at hsp
    have hR : splitR ids b = (outs, (sEnd (b.drop a, 0)).2) := by unfold splitR; rw [hsp]
  · have he : (sEnd (b.drop a, 0)).2 = 2 := by unfold sEnd sLeft; simp; omega
    rw [he] at hR
    refine fin_id hE 0 rfl rfl rfl rfl ?_
    unfold SplitPost
    rw [hR, if_neg (by simp)]
    exact ⟨rfl, rfl⟩
  · have he : (sEnd (b.drop a, 0)).2 = 0 := by unfold sEnd sLeft; simp; omega
    rw [he] at hR
    refine fin_all ?_
    unfold SplitPost
    rw [hR, if_pos rfl]
    exact ⟨vals, rfl, by rw [← hvl], hv⟩
end Go.Proofs.YtchebkpcgglllaaGreat.Cu

namespace Go.Proofs.YtchebkpcgglllaaGreat.Cu
open Go Go.SX Go.Proofs.YtchebkpcgglllaaGreat.VT
set_option maxRecDepth 100000
set_option linter.unusedVariables false
set_option linter.unusedSimpArgs false

theorem kB_of {G : Gh} {A : Option Addr} {n c sz : Nat} {xs : List Value} (l : List Int) (h : Sl G A n c sz xs) (h1 : n = l.length) (h2 : sz = 1) (h3 : xs = byts l) (hb : isB l) : kB.S G A c l := S_kB (SlB.of l h h1 h2 h3) hb
theorem kBs_of {G : Gh} {A : Option Addr} {n c sz : Nat} {xs : List Value} (ls : List (List Int)) (h : Sl G A n c sz xs) (h1 : n = ls.length) (h2 : sz = 1) (h3 : kBs.Cs G ls xs) : kBs.S G A c ls := Kd.S.of h h1 h2 h3
theorem cs1 {G : Gh} {l : List Int} {cells : List Value} (h : kBs.R G l cells) : kBs.Cs G [l] cells := ⟨[cells], ⟨h, trivial⟩, by simp⟩
end Go.Proofs.YtchebkpcgglllaaGreat.Cu
