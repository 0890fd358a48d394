/- A symbolic walk: from a contract to a row. -/
import Derived.Test.YtgdfhpknhcjipaaSX13
import Derived.Below
namespace Go.SX
open Go.RowKit
set_option linter.unusedVariables false

def heapG (W : World) : Gh := fun b => W.heap[b]?
theorem Ag.start (W : World) : Ag (Fr W [] (heapG W)) [] [] (heapG W) W :=
  ⟨rfl, fun i ob x h => by simp at h, fun i j x y b h => by simp at h, fun i x b h => by simp at h, fun b o h => h, fun _ _ _ => rfl, Nat.le_refl _, rfl, rfl, rfl, fun i a h => h, fun b o h => h, fun b o h => .inl h⟩
theorem Ct.law {P : Program} {f : FuncId} {args : List SV} {W : World} {Post : SV → List Ob → Gh → Prop} (h : Ct P f args [] (heapG W) Post) {ys : List Value} (hargs : Rvs [] args ys) :
    Calls P f ys.toArray W fun e W' => ∃ v sv H' G' ρ', e = .returned v ∧ Post sv H' G' ∧ Rv ρ' sv v ∧ Below W.heap.size W W' := by
  refine (h.calls [] W ys (Ag.start W) hargs).mono fun e w' hh => ?_
  obtain ⟨v, sv, H', G', ρ', rfl, hp, hA, hr⟩ := hh
  refine ⟨v, sv, H', G', ρ', rfl, hp, hr, hA.os, hA.tape, hA.output, hA.size, fun k hk => ?_⟩
  exact hA.frame k hk (fun ⟨i, x, hx, _⟩ => by simp at hx)
/-- A slice of integers that lies in the world. -/
theorem sl_ints {W : World} {a : Option Addr} {len cap : Nat} {zs : List Int} {k : IntKind} (h : (a = none ∧ len = 0 ∧ cap = 0 ∧ zs = []) ∨
    ∃ x, a = some x ∧ len ≤ cap ∧ cap ≤ maxLen ∧ len ≤ zs.length ∧ (∀ i, i < zs.length → W.cell? (x.add i) = some (.int k (zs.getD i 0))) ∧ ∀ n ∈ zs, (Lit.int k n).wf = true) :
    Sl (heapG W) a len cap 1 ((zs.take len).map (.int k)) ∧ (zs.take len).length = len ∧ ∀ n ∈ zs.take len, (Lit.int k n).wf = true := by
  rcases h with ⟨rfl, rfl, rfl, rfl⟩ | ⟨x, rfl, h1, h2, h3, h4, h5⟩
  · exact ⟨⟨rfl, Nat.le_refl _, by decide, fun ad h => by simp at h, fun _ => ⟨rfl, rfl⟩, fun v hv => by simp at hv⟩, rfl, fun n hn => by simp at hn⟩
  · refine ⟨⟨by simp [h3], h1, by simpa [maxLen] using h2, fun ad had j v hj => ?_, fun h => by simp at h, fun v hv => ?_⟩, by simp [h3], fun n hn => h5 n (List.mem_of_mem_take hn)⟩
    · simp at had; subst had
      rw [List.getElem?_map] at hj
      obtain ⟨n, hn, rfl⟩ := Option.map_eq_some_iff.1 hj
      rw [List.getElem?_take] at hn
      split at hn
      · have hlt := (List.getElem?_eq_some_iff.1 hn).1
        have := h4 j hlt
        rw [List.getD_eq_getElem?_getD, hn] at this
        exact this
      · simp at hn
    · obtain ⟨n, _, rfl⟩ := List.mem_map.1 hv
      rfl
end Go.SX
