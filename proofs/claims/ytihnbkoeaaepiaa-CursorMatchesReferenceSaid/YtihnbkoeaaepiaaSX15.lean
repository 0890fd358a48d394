/- A symbolic walk: a slice of structs of integers that lies in the world. -/
import Derived.Test.YtihnbkoeaaepiaaSX14
import Derived.ChangeArms
import Derived.ChangeSame
import Derived.Deep.Slices
import Derived.DataReads
namespace Go.SX
open Go.RowKit Go.Deep
set_option linter.unusedVariables false

/-- These integers are of these kinds. -/
def WfR : List IntKind → List Int → Prop
  | [], [] => True
  | k :: ks, x :: xs => (Lit.int k x).wf = true ∧ WfR ks xs
  | _, _ => False
def valR : List IntKind → List Int → List Value
  | k :: ks, x :: xs => .int k x :: valR ks xs
  | _, _ => []
theorem valR_len : ∀ (ks : List IntKind) (xs : List Int), WfR ks xs → (valR ks xs).length = ks.length
  | [], [], _ => rfl
  | k :: ks, x :: xs, h => by simp [valR, valR_len ks xs h.2]
  | [], _ :: _, h => h.elim
  | _ :: _, [], h => h.elim
theorem valR_one : ∀ (ks : List IntKind) (xs : List Int), ∀ v ∈ valR ks xs, v.oneCell' = true
  | [], _, v, h => by simp [valR] at h
  | _ :: _, [], v, h => by simp [valR] at h
  | k :: ks, x :: xs, v, h => by
    rcases List.mem_cons.1 h with rfl | h
    · rfl
    · exact valR_one ks xs v h
theorem flat_cells : ∀ (ks : List IntKind) (cs : List Value), cs.length = ks.length → (∀ i k, ks[i]? = some k → ∃ n, (cs.drop i).take 1 = [.int k n] ∧ (Lit.int k n).wf = true) → ∃ xs, cs = valR ks xs ∧ WfR ks xs
  | [], [], _, _ => ⟨[], rfl, trivial⟩
  | k :: ks, c :: cs, hl, h => by
    obtain ⟨xs, h1, h2⟩ := flat_cells ks cs (by simpa using hl) fun i k' hi => by simpa using h (i + 1) k' (by simpa using hi)
    obtain ⟨n, h3, h4⟩ := h 0 k (by simp)
    simp at h3
    exact ⟨n :: xs, by rw [h3, h1]; rfl, h4, h2⟩
  | [], _ :: _, h, _ => by simp at h
  | _ :: _, [], h, _ => by simp at h
theorem flat_at {k : Nat} : ∀ (l : List (List Value)), (∀ r ∈ l, r.length = k) → ∀ j v, l.flatten[j]? = some v → ∃ i o r, j = i * k + o ∧ l[i]? = some r ∧ r[o]? = some v
  | [], _, j, v, h => by simp at h
  | r :: l, hl, j, v, h => by
    rw [List.flatten_cons] at h
    have hr := hl r (by simp)
    rcases Nat.lt_or_ge j r.length with hj | hj
    · rw [List.getElem?_append_left hj] at h
      exact ⟨0, j, r, by omega, by simp, h⟩
    · rw [List.getElem?_append_right hj] at h
      obtain ⟨i, o, r', h1, h2, h3⟩ := flat_at l (fun r' hr' => hl r' (by simp [hr'])) _ v h
      exact ⟨i + 1, o, r', by rw [Nat.add_mul]; omega, by simpa using h2, h3⟩
theorem flat_len {k : Nat} : ∀ (l : List (List Value)), (∀ r ∈ l, r.length = k) → l.flatten.length = l.length * k
  | [], _ => by simp
  | r :: l, h => by
    rw [List.flatten_cons, List.length_append, flat_len l (fun r' hr' => h r' (by simp [hr'])), h r (by simp), List.length_cons, Nat.add_mul]
    omega
section
variable {H : Type} {enc : TypeId × Value → H} {P : Program} {W : World} {base : Nat} {spare : Nat → Bool} {held : Bool}
theorem open_flat {t e : TypeId} {fs : Array Go.Field} {fuel : Nat} {cs : List Value} {x : DataW H × List MemPlace} (ks : List IntKind) (ht : P.underlying t = some (.slice e)) (he : P.underlying e = some (.struct fs)) (hsz : P.cellsOf e = ks.length)
    (hfs : ∀ i k, ks[i]? = some k → ∃ f : Go.Field, fs[i]? = some f ∧ f.offset = i ∧ P.underlying f.type = some (.int k) ∧ P.cellsOf f.type = 1) (h : DataW.trod enc P W base spare held fuel t cs = some x) :
    ∃ a len cap, cs = [.slice a len cap] ∧ ∃ rows : List (List Int), rows.length = len ∧ (∀ r ∈ rows, WfR ks r) ∧ Sl (heapG W) a len cap ks.length (rows.map (valR ks)).flatten := by
  rcases open_slice ht h with ⟨rfl, _⟩ | ⟨a, len, cap, m, n, D, Pl, rfl, _, hl, hm, hmm, _, hcell⟩
  · exact ⟨none, 0, 0, rfl, [], rfl, by simp, by simp, Nat.le_refl _, by decide, fun ad h => by simp at h, fun _ => ⟨rfl, rfl⟩, fun v hv => by simp at hv⟩
  · have hle : len ≤ m := by rw [hmm]; split <;> omega
    have hx : ∀ i, i < len → ∃ r : List Int, WfR ks r ∧ ∀ o v, (valR ks r)[o]? = some v → W.cell? ((a.add (i * ks.length)).add o) = some v := by
      intro i hi
      obtain ⟨cs', h1, h2⟩ := hcell i (by omega)
      obtain ⟨xs, n', _, _, hl', hxl, hall⟩ := DataW.trod_struct he h2
      obtain ⟨r, hr, hw⟩ := flat_cells ks cs' (by rw [hl', hsz]) fun i k hk => by
        obtain ⟨f, hf, ho, hu, hc⟩ := hfs i k hk
        have h3 := hall i f hf
        have hil : i < xs.length := by rw [hxl]; exact (Array.getElem?_eq_some_iff.1 hf).1
        rw [List.getElem?_eq_getElem hil, ho, hc] at h3
        obtain ⟨n, h4, _, h5⟩ := DataW.trod_int hu h3
        exact ⟨n, h4, h5⟩
      refine ⟨r, hw, fun o v hv => ?_⟩
      have h6 := World.cells?_some h1
      have ho : o < ks.length := by rw [← valR_len ks r hw]; exact (List.getElem?_eq_some_iff.1 hv).1
      have h7 := h6.2.2 o (by rw [hsz]; exact ho)
      rw [hsz] at h7
      rw [h7, hr]; exact hv
    have hpick : ∀ q, q ≤ len → ∃ rows : List (List Int), rows.length = q ∧ (∀ r ∈ rows, WfR ks r) ∧ ∀ i r, rows[i]? = some r → ∀ o v, (valR ks r)[o]? = some v → W.cell? ((a.add (i * ks.length)).add o) = some v := by
      intro q
      induction q with
      | zero => intro _; exact ⟨[], rfl, by simp, fun i y hy => by simp at hy⟩
      | succ q ih =>
        intro hq
        obtain ⟨ys, hys, hwf, hall⟩ := ih (by omega)
        obtain ⟨y, hy, hyc⟩ := hx q (by omega)
        refine ⟨ys ++ [y], by simp [hys], fun r hr => ?_, fun i z hz => ?_⟩
        · rcases List.mem_append.1 hr with hr | hr
          · exact hwf r hr
          · simp at hr; subst hr; exact hy
        · rcases Nat.lt_or_ge i q with hlt | hge
          · rw [List.getElem?_append_left (by omega)] at hz
            exact hall i z hz
          · have hik : i = q := by
              have := (List.getElem?_eq_some_iff.1 hz).1
              rw [List.length_append, List.length_singleton, hys] at this
              omega
            subst hik
            rw [List.getElem?_append_right (by omega), hys, Nat.sub_self] at hz
            simp at hz
            subst hz
            exact hyc
    obtain ⟨rows, h1, h2, h3⟩ := hpick len (Nat.le_refl _)
    have hlr : ∀ r ∈ rows.map (valR ks), r.length = ks.length := fun r hr => by
      obtain ⟨r', hr', rfl⟩ := List.mem_map.1 hr
      exact valR_len ks r' (h2 r' hr')
    refine ⟨some a, len, cap, rfl, rows, h1, h2, by rw [flat_len _ hlr, List.length_map, h1], hl, by simpa [maxLen] using hm, fun ad had j v hj => ?_, fun h => by simp at h, fun v hv => ?_⟩
    · simp at had; subst had
      obtain ⟨i, o, r, rfl, hi, ho⟩ := flat_at _ hlr j v hj
      rw [List.getElem?_map] at hi
      obtain ⟨r', hr', rfl⟩ := Option.map_eq_some_iff.1 hi
      have := h3 i r' hr' o v ho
      rw [Go.Deep.add_add] at this
      exact this
    · obtain ⟨l, hl, hv'⟩ := List.mem_flatten.1 hv
      obtain ⟨r', _, rfl⟩ := List.mem_map.1 hl
      exact valR_one ks r' v hv'
end
end Go.SX
