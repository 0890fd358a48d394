/- Sections: the plain laws. -/
import Derived.Test.YtchebkpcgglllaaGreatSex
namespace Go.Proofs.YtchebkpcgglllaaGreat.Cu
open Go Go.SX Go.Proofs.YtchebkpcgglllaaGreat.VT
set_option maxRecDepth 100000
set_option linter.unusedVariables false
set_option linter.unusedSimpArgs false

def okC (c : List Int) : Prop := isB c ∧ c.length < 4611686018427387904
theorem isB_put (n : Nat) (h : n < 18446744073709551616) : isB (putB n) := vput_byte 9 n (by simpa using h)
theorem isB_app' {l m : List Int} (h : isB l) (h2 : isB m) : isB (l ++ m) := fun x hx => by
  rcases List.mem_append.1 hx with hx | hx
  · exact h x hx
  · exact h2 x hx
theorem stepS_good (id : Int) (c rest : List Int) (hc : okC c) (hr : isB rest) (h64 : rest.length < 4611686018427387904) : stepS id (id :: (putB c.length ++ c ++ rest), 0) = (c, (rest, 0)) := by
  have hv : vdec 0 (putB c.length ++ c ++ rest) = ((c.length : Int), ((putB c.length).length : Int), 0) := by
    rw [List.append_assoc]; exact vdec_put c.length (by have := hc.2; omega) _
  have hd : (putB c.length ++ c ++ rest).drop (putB c.length).length = c ++ rest := by rw [List.append_assoc, List.drop_left]
  have hb : isB (putB c.length ++ c ++ rest) := isB_app' (isB_app' (isB_put _ (by have := hc.2; omega)) hc.1) hr
  rw [stepS_ok hb hv (by rw [hd]; simp) (by rw [hd]; simp; have := hc.2; omega), hd, List.take_left, List.drop_left]
theorem splitS_good : ∀ (ids : List Int) (cs : List (List Int)) (rest : List Int), ids.length = cs.length → isB ids → (∀ c ∈ cs, okC c) → isB rest → (packB ids cs).length + rest.length < 4611686018427387904 → splitS ids (packB ids cs ++ rest, 0) = (cs, (rest, 0))
  | [], [], rest, _, _, _, _, _ => rfl
  | id :: ids, c :: cs, rest, h, hi, hc, hr, hl => by
    have hp : packB (id :: ids) (c :: cs) ++ rest = id :: (putB c.length ++ c ++ (packB ids cs ++ rest)) := by simp [packB]
    have hlen : (packB (id :: ids) (c :: cs)).length = 1 + (putB c.length).length + c.length + (packB ids cs).length := by simp [packB]; omega
    have hbp : isB (packB ids cs) := packB_isb (fun y hy => hi y (by simp [hy])) (fun d hd => ⟨(hc d (by simp [hd])).1, by have := (hc d (by simp [hd])).2; omega⟩)
    have hst := stepS_good id c (packB ids cs ++ rest) (hc c (by simp)) (isB_app' hbp hr) (by rw [List.length_append]; omega)
    have ih := splitS_good ids cs rest (by simpa using h) (fun y hy => hi y (by simp [hy])) (fun d hd => hc d (by simp [hd])) hr (by omega)
    rw [hp]
    simp only [splitS]
    rw [hst]
    simp only
    rw [ih]
  | [], _ :: _, _, h, _, _, _, _ => by simp at h
  | _ :: _, [], _, h, _, _, _, _ => by simp at h
theorem splitR_good {ids : List Int} {cs : List (List Int)} (h : ids.length = cs.length) (hi : isB ids) (hc : ∀ c ∈ cs, okC c) (hl : (packB ids cs).length < 4611686018427387904) : splitR ids (packB ids cs) = (cs, 0) := by
  have := splitS_good ids cs [] h hi hc (by intro x hx; simp at hx) (by simpa using hl)
  rw [List.append_nil] at this
  unfold splitR; rw [this]; rfl
theorem stepS_inv {id : Int} {l c l' : List Int} (hb : isB l) (h64 : l.length < 4611686018427387904) (h : stepS id (l, 0) = (c, (l', 0))) : l = id :: (putB c.length ++ c ++ l') ∧ okC c ∧ c.length ≤ l.length ∧ l'.length + c.length ≤ l.length := by
  cases l with
  | nil => rw [stepS_nil] at h; simp at h
  | cons x l =>
    by_cases hx : x = id
    · subst hx
      have hbl : isB l := fun y hy => hb y (by simp [hy])
      simp only [List.length_cons] at h64
      rcases vdec_form hbl with ⟨e, he, hd⟩ | ⟨n, m, hd, h3, h4, h5, h6, h7⟩
      · rw [stepS_get hbl (by rw [hd]; simp; omega), hd] at h
        simp at h; omega
      · have hl : (l.drop m).length = l.length - m := by simp
        by_cases hs : (l.drop m).length < n
        · rw [stepS_short hbl hd hs] at h; simp at h
        · rw [stepS_ok hbl hd (by omega) (by omega)] at h
          simp at h
          obtain ⟨rfl, rfl⟩ := h
          have hcl : ((l.drop m).take n).length = n := by rw [List.length_take]; omega
          refine ⟨?_, ⟨isB_take (isB_drop hbl m) n, by omega⟩, by simp only [List.length_cons]; omega, by simp only [List.length_cons, List.length_drop]; omega⟩
          rw [hcl]
          have : putB n = l.take m := h7.symm
          rw [this, ← List.drop_drop, List.append_assoc, List.take_append_drop, List.take_append_drop]
    · rw [stepS_ne hx] at h; simp at h
theorem splitS_inv : ∀ (ids : List Int) (l l' : List Int), isB l → l.length < 4611686018427387904 → (splitS ids (l, 0)).2 = (l', 0) → l = packB ids (splitS ids (l, 0)).1 ++ l' ∧ (∀ c ∈ (splitS ids (l, 0)).1, okC c) ∧ total (splitS ids (l, 0)).1 + l'.length ≤ l.length
  | [], l, l', hb, _, h => by
    simp [splitS] at h; subst h
    exact ⟨by simp [splitS, packB], by simp [splitS], by simp [splitS, total]⟩
  | id :: ids, l, l', hb, h64, h => by
    simp only [splitS] at h ⊢
    generalize hst : stepS id (l, 0) = q at *
    obtain ⟨c, l1, e⟩ := q
    simp only at h ⊢
    by_cases he : e = 0
    · subst he
      obtain ⟨h1, h2, h3, h4⟩ := stepS_inv hb h64 hst
      have hb1 : isB l1 := by
        have hs := stepS_suf id (l, 0)
        rw [hst] at hs
        exact isB_suf hb hs
      obtain ⟨h5, h6, h7⟩ := splitS_inv ids l1 l' hb1 (by omega) h
      refine ⟨?_, ?_, ?_⟩
      · rw [h1]
        simp only [packB, List.cons_append, List.append_assoc]
        rw [← h5]
      · intro d hd
        rcases List.mem_cons.1 hd with rfl | hd
        · exact h2
        · exact h6 d hd
      · simp only [total]; omega
    · have := splitS_err ids (l1, e) he
      rw [this] at h
      simp at h
      exact absurd h.2 he
theorem splitR_inv {ids l : List Int} (hb : isB l) (h64 : l.length < 4611686018427387904) (h : (splitR ids l).2 = 0) : l = packB ids (splitR ids l).1 ∧ (∀ c ∈ (splitR ids l).1, okC c) ∧ total (splitR ids l).1 ≤ l.length ∧ (splitR ids l).1.length = ids.length := by
  unfold splitR at h ⊢
  simp only at h ⊢
  have hlen := splitS_len ids (l, 0)
  have hinv := splitS_inv ids l
  generalize splitS ids (l, 0) = q at *
  obtain ⟨outs, l', e⟩ := q
  simp only at *
  unfold sEnd sLeft at h
  simp only at h
  have he : e = 0 := by
    by_cases he : e = 0
    · exact he
    · simp [he] at h
  subst he
  simp only [if_true] at h
  have hl : l' = [] := by
    cases l' with
    | nil => rfl
    | cons x l' => simp at h
  subst hl
  obtain ⟨h1, h2, h3⟩ := hinv [] hb h64 rfl
  exact ⟨by simpa using h1, h2, by simpa using h3, hlen⟩

/-! ### damage -/
end Go.Proofs.YtchebkpcgglllaaGreat.Cu
