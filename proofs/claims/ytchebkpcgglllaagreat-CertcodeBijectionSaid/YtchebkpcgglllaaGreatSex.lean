/- Sex: Se3, Se4, Se5 in one text. -/
import Derived.Test.YtchebkpcgglllaaGreatSe2
import Derived.Test.YtchebkpcgglllaaGreatVTx
namespace Go.Proofs.YtchebkpcgglllaaGreat.Cu
open Go Go.SX Go.Proofs.YtchebkpcgglllaaGreat.VT
set_option maxRecDepth 100000
set_option linter.unusedVariables false
set_option linter.unusedSimpArgs false

end Go.Proofs.YtchebkpcgglllaaGreat.Cu

namespace Go.Proofs.YtchebkpcgglllaaGreat.Cu
open Go Go.SX Go.Proofs.YtchebkpcgglllaaGreat.VT
set_option maxRecDepth 100000
set_option linter.unusedVariables false
set_option linter.unusedSimpArgs false

theorem step_err {id : Int} {p : Ps} (h : p.2 ≠ 0) : step1 id p = p ∧ step2 p = p ∧ stepS id p = ([], p) := by
  have h1 : step1 id p = p := by unfold step1; rw [sByte_err h, if_neg (fun hh => h hh.1)]
  have h2 : step2 p = p := by unfold step2; rw [sUint_err h, if_neg (fun hh => h hh.1)]
  refine ⟨h1, h2, ?_⟩
  unfold stepS; rw [h1, h2, sBytes_err h]
theorem splitS_err : ∀ (ids : List Int) (p : Ps), p.2 ≠ 0 → (splitS ids p).2 = p
  | [], p, h => rfl
  | id :: ids, p, h => by
    simp only [splitS, (step_err h).2.2]
    exact splitS_err ids p h
theorem stepS_of1 {id : Int} {p q : Ps} (h1 : step1 id p = q) (h : q.2 ≠ 0) : stepS id p = ([], q) := by
  unfold stepS; rw [h1, (step_err (id := id) h).2.1, sBytes_err h]
theorem stepS_nil (id : Int) : stepS id ([], 0) = ([], ([], 1)) := stepS_of1 (by unfold step1 sByte; simp) (by simp)
theorem stepS_ne {id x : Int} {l : List Int} (h : x ≠ id) : stepS id (x :: l, 0) = ([], (l, 7)) := stepS_of1 (by unfold step1 sByte sFail failE; simp [h]) (by simp)
theorem step1_ok (id : Int) (l : List Int) : step1 id (id :: l, 0) = (l, 0) := by unfold step1 sByte; simp
theorem sUint_max {l : List Int} (hb : isB l) : sUint maxU (l, 0) = if (vdec 0 l).2.2 = 0 then ((vdec 0 l).1, (l.drop (vdec 0 l).2.1.toNat, 0)) else (0, (l, (vdec 0 l).2.2)) := by
  unfold sUint
  simp only [ne_eq, not_true_eq_false, if_false]
  have hw : whyU maxU (vdec 0 l) = (vdec 0 l).2.2 := by
    unfold whyU maxU
    rcases vdec_form hb with ⟨x, hx, h⟩ | ⟨n, m, h, h3, _⟩ <;> rw [h]
    · rw [if_neg (by rintro ⟨h1, _⟩; simp only at h1; omega)]
    · rw [if_neg (by rintro ⟨_, h1⟩; simp only at h1; omega)]
  rw [hw]
theorem stepS_get {id : Int} {l : List Int} (hb : isB l) (h : (vdec 0 l).2.2 ≠ 0) : stepS id (id :: l, 0) = ([], (l, (vdec 0 l).2.2)) := by
  unfold stepS
  have h2 : step2 (l, 0) = (l, (vdec 0 l).2.2) := by
    unfold step2
    rw [sUint_max hb, if_neg h]
    simp only
    rw [if_neg (fun hh => h hh.1)]
  rw [step1_ok, h2, sBytes_err h]
theorem stepS_short {id : Int} {l : List Int} {n m : Nat} (hb : isB l) (h : vdec 0 l = ((n : Int), (m : Int), 0)) (hn : (l.drop m).length < n) : stepS id (id :: l, 0) = ([], (l.drop m, 1)) := by
  unfold stepS
  have h2 : step2 (l, 0) = (l.drop m, 1) := by
    unfold step2
    rw [sUint_max hb, h]
    simp only [if_true, Int.toNat_natCast]
    rw [if_pos ⟨trivial, by unfold sLeft; simp only [if_true]; omega⟩]
    rfl
  rw [step1_ok, h2, sBytes_err (by simp)]
theorem stepS_ok {id : Int} {l : List Int} {n m : Nat} (hb : isB l) (h : vdec 0 l = ((n : Int), (m : Int), 0)) (hn : n ≤ (l.drop m).length) (h64 : (l.drop m).length < 9223372036854775808) : stepS id (id :: l, 0) = ((l.drop m).take n, ((l.drop m).drop n, 0)) := by
  unfold stepS
  have h2 : step2 (l, 0) = (l.drop m, 0) := by
    unfold step2
    rw [sUint_max hb, h]
    simp only [if_true, Int.toNat_natCast]
    rw [if_neg (by rintro ⟨_, hh⟩; unfold sLeft at hh; simp only [if_true] at hh; omega)]
  have h3 : (sUint maxU (l, 0)).1 = (n : Int) := by rw [sUint_max hb, h]; simp
  rw [step1_ok, h2, h3, i64_in (by omega) (by omega)]
  unfold sBytes
  simp only [ne_eq, not_true_eq_false, if_false]
  rw [if_neg (by omega), if_neg (by omega), Int.toNat_natCast]
end Go.Proofs.YtchebkpcgglllaaGreat.Cu

namespace Go.Proofs.YtchebkpcgglllaaGreat.Cu
open Go Go.SX Go.Proofs.YtchebkpcgglllaaGreat.VT
set_option maxRecDepth 100000
set_option linter.unusedVariables false
set_option linter.unusedSimpArgs false

theorem kBs_of {G : Gh} {A : Option Addr} {n c sz : Nat} {xs : List Value} (ls : List (List Int)) (h : Sl G A n c sz xs) (h1 : n = ls.length) (h2 : sz = 1) (h3 : kBs.Cs G ls xs) : kBs.S G A c ls := Kd.S.of h h1 h2 h3
end Go.Proofs.YtchebkpcgglllaaGreat.Cu
