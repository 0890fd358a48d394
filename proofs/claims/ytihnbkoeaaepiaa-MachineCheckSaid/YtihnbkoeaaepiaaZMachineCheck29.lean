/- A function is accepted exactly if its counts are valid, all its instructions and terminators are, and no run of moves is longer than MaxMoves. No condition. -/
import Derived.Test.YtihnbkoeaaepiaaZMachineCheck20
import Derived.ChangeArms
import Derived.Deep.Slices
import Derived.Lib.SmallJoins
import Derived.DataReads
namespace Go.Proofs.YtihnbkoeaaepiaaW.PrintWords
open Go.RowKit Go.Deep
def Opens {α : Type} (P : Program) (t : TypeId) (d : Kd α) (wf : α → Prop) : Prop :=
  P.cellsOf t = d.sz ∧ ∀ (H : Type) (enc : TypeId × Value → H) (W : World) (base : Nat) (spare : Nat → Bool) (held : Bool) (fuel : Nat) (cs : List Value) (x : DataW H × List MemPlace),
    DataW.trod enc P W base spare held fuel t cs = some x → ∃ y : α, d.K W y cs ∧ wf y
theorem opens_int {P : Program} {t : TypeId} {k : IntKind} (hc : P.cellsOf t = 1) (ht : P.underlying t = some (.int k)) : Opens P t (Kd.int k) (fun x => (Lit.int k x).wf = true) :=
  ⟨hc, fun H enc W base spare held fuel cs x h => by
    obtain ⟨n, rfl, _, hw⟩ := DataW.trod_int ht h
    exact ⟨n, rfl, hw⟩⟩
theorem opens_slice {α : Type} {P : Program} {t e : TypeId} {d : Kd α} {wf : α → Prop} (hc : P.cellsOf t = 1) (ht : P.underlying t = some (.slice e)) (he : Opens P e d wf) :
    Opens P t (Kd.slice e d) (fun l => l.length ≤ maxLen ∧ ∀ x ∈ l, wf x) :=
  ⟨hc, fun H enc W base spare held fuel cs x h => by
    rcases open_slice ht h with ⟨rfl, _⟩ | ⟨a, len, cap, m, n, D, Pl, rfl, _, hl, hm, hmm, _, hcell⟩
    · exact ⟨[], ⟨none, 0, rfl, Nat.le_refl _, rfl, by simp, fun h0 => by simp at h0⟩, by simp, by simp⟩
    · have hle : len ≤ m := by rw [hmm]; split <;> omega
      have hx : ∀ i, i < len → ∃ y : α, ∃ cs', W.cells? base (a.add (i * P.cellsOf e)) (P.cellsOf e) = some cs' ∧ d.K W y cs' ∧ wf y := by
        intro i hi
        obtain ⟨cs', h1, h2⟩ := hcell i (by omega)
        obtain ⟨y, h3, h4⟩ := he.2 H enc W base spare held n cs' _ h2
        exact ⟨y, cs', h1, h3, h4⟩
      have hpick : ∃ ys : List α, ys.length = len ∧ ∀ i y, ys[i]? = some y → ∃ cs', W.cells? base (a.add (i * P.cellsOf e)) (P.cellsOf e) = some cs' ∧ d.K W y cs' ∧ wf y := by
        have : ∀ k, k ≤ len → ∃ ys : List α, ys.length = k ∧ ∀ i y, ys[i]? = some y → ∃ cs', W.cells? base (a.add (i * P.cellsOf e)) (P.cellsOf e) = some cs' ∧ d.K W y cs' ∧ wf y := by
          intro k
          induction k with
          | zero => intro _; exact ⟨[], rfl, fun i y hy => by simp at hy⟩
          | succ k ih =>
            intro hk
            obtain ⟨ys, hys, hall⟩ := ih (by omega)
            obtain ⟨y, hy⟩ := hx k (by omega)
            refine ⟨ys ++ [y], by simp [hys], fun i z hz => ?_⟩
            rcases Nat.lt_or_ge i k with hlt | hge
            · rw [List.getElem?_append_left (by omega)] at hz
              exact hall i z hz
            · have hik : i = k := by
                have := (List.getElem?_eq_some_iff.1 hz).1
                rw [List.length_append, List.length_singleton, hys] at this
                omega
              subst hik
              rw [List.getElem?_append_right (by omega), hys, Nat.sub_self] at hz
              simp at hz
              subst hz
              exact hy
        exact this len (Nat.le_refl _)
      obtain ⟨ys, hys, hall⟩ := hpick
      refine ⟨ys, ⟨some a, cap, by rw [hys], by omega, rfl, by have : maxLen = 9223372036854775807 := rfl; omega, fun _ => ⟨a, rfl, fun j p hj => ?_⟩⟩, by omega, fun y hy => ?_⟩
      · obtain ⟨cs', h1, h2, _⟩ := hall j p hj
        refine ⟨cs', d.K_len h2, h2, fun i u hu => ?_⟩
        have hi : i < P.cellsOf e := by
          have := (List.getElem?_eq_some_iff.1 hu).1
          rw [d.K_len h2, ← he.1] at this
          exact this
        have := (World.cells?_some h1).2.2 i hi
        rw [hu, add_add, he.1] at this
        exact this
      · obtain ⟨i, hi⟩ := List.getElem?_of_mem hy
        obtain ⟨_, _, _, h3⟩ := hall i y hi
        exact h3⟩
def OpensF {α : Type} (P : Program) (fs : List Field) (o : Nat) (d : Kd α) (wf : α → Prop) : Prop :=
  ∀ (H : Type) (enc : TypeId × Value → H) (W : World) (base : Nat) (spare : Nat → Bool) (held : Bool) (n : Nat) (cs : List Value), cs.length = o + d.sz →
    (∀ f ∈ fs, ∃ x, DataW.trod enc P W base spare held n f.type ((cs.drop f.offset).take (P.cellsOf f.type)) = some x) → ∃ y : α, d.K W y (cs.drop o) ∧ wf y
theorem opensF_one {α : Type} {P : Program} {f : Field} {o : Nat} {d : Kd α} {wf : α → Prop} (ho : f.offset = o) (hd : Opens P f.type d wf) : OpensF P [f] o d wf := by
  intro H enc W base spare held n cs hl hf
  obtain ⟨x, hx⟩ := hf f (by simp)
  obtain ⟨y, h1, h2⟩ := hd.2 H enc W base spare held n _ x hx
  rw [ho, hd.1, List.take_of_length_le (by rw [List.length_drop]; omega)] at h1
  exact ⟨y, h1, h2⟩
theorem opensF_cons {α β : Type} {P : Program} {f : Field} {fs : List Field} {o : Nat} {d : Kd α} {d2 : Kd β} {wf : α → Prop} {wf2 : β → Prop} (ho : f.offset = o) (hd : Opens P f.type d wf) (hr : OpensF P fs (o + d.sz) d2 wf2) :
    OpensF P (f :: fs) o (Kd.pair d d2) (fun x => wf x.1 ∧ wf2 x.2) := by
  intro H enc W base spare held n cs hl hf
  have hs : (Kd.pair d d2).sz = d.sz + d2.sz := rfl
  obtain ⟨x, hx⟩ := hf f (by simp)
  obtain ⟨y, h1, h2⟩ := hd.2 H enc W base spare held n _ x hx
  obtain ⟨z, h3, h4⟩ := hr H enc W base spare held n cs (by omega) (fun g hg => hf g (by simp [hg]))
  rw [ho, hd.1] at h1
  refine ⟨(y, z), ⟨(cs.drop o).take d.sz, cs.drop (o + d.sz), ?_, h1, h3⟩, h2, h4⟩
  rw [← List.drop_drop, List.take_append_drop]
theorem opens_struct {α β : Type} {P : Program} {t : TypeId} {fs : Array Field} {d : Kd α} {wf : α → Prop} (f : β → α) (g : α → β) (hfg : ∀ y, f (g y) = y) (hc : P.cellsOf t = d.sz) (ht : P.underlying t = some (.struct fs)) (hf : OpensF P fs.toList 0 d wf) :
    Opens P t (Kd.iso d f) (fun x => wf (f x)) :=
  ⟨hc, fun H enc W base spare held fuel cs x h => by
    obtain ⟨xs, n, _, _, hl, hxl, hall⟩ := DataW.trod_struct ht h
    obtain ⟨y, h1, h2⟩ := hf H enc W base spare held n cs (by omega) (fun q hq => by
      obtain ⟨i, hi⟩ := List.getElem?_of_mem hq
      have hi' : fs[i]? = some q := by simpa using hi
      have hlt : i < fs.size := (Array.getElem?_eq_some_iff.1 hi').1
      exact ⟨xs[i]'(by omega), by rw [hall i q hi', List.getElem?_eq_getElem]⟩)
    refine ⟨g y, ?_, ?_⟩
    · show d.K W (f (g y)) cs
      rw [hfg]
      simpa using h1
    · show wf (f (g y))
      rw [hfg]
      exact h2⟩
end Go.Proofs.YtihnbkoeaaepiaaW.PrintWords
