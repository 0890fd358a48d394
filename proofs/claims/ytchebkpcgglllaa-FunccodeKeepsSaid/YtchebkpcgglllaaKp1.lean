/- Writing into a copy that is all its own. -/
import Derived.Test.YtchebkpcgglllaaSXT
namespace Go.SX
open Go
set_option linter.unusedVariables false
set_option linter.unusedSimpArgs false
section
variable {E : Env} {G G' G0 : Gh} {B : Nat → Prop}
/-- Blocks of B may have other values, cell by cell. -/
structure Sim (B : Nat → Prop) (G G' : Gh) : Prop where
  off : ∀ b, ¬ B b → G' b = G b
  on : ∀ b, B b → ∀ (cs : Array Value) (T : TypeId), G b = some (.cells cs T (0, 0)) → ∃ cs' : Array Value, G' b = some (.cells cs' T (0, 0)) ∧ cs'.size = cs.size ∧ ∀ (j : Nat) v, cs'[j]? = some v → cs[j]? = some v ∨ v.oneCell' = true
theorem Sim.refl (B : Nat → Prop) (G : Gh) : Sim B G G := ⟨fun _ _ => rfl, fun b _ cs T h => ⟨cs, h, rfl, fun j v h => .inl h⟩⟩
theorem Sim.ghe (h : Sim B G G') (hg : Ghe G0 G) (hB : ∀ b, B b → G0 b = none) : Ghe G0 G' := fun b o ho => by
  rw [h.off b (fun hb => by rw [hB b hb] at ho; cases ho)]
  exact hg b o ho
theorem Sim.sl_off (h : Sim B G G') {A : Option Addr} {n c sz : Nat} {cs : List Value} (hs : Sl G A n c sz cs) (hB : ∀ ad, A = some ad → ¬ B ad.block) : Sl G' A n c sz cs := by
  refine ⟨hs.len, hs.cap, hs.top, fun ad had j v hj => ?_, hs.nil, hs.ones⟩
  have h1 := hs.there ad had j v hj
  have hb : (ad.add j).block = ad.block := by unfold Addr.add; split <;> rfl
  unfold Gcell at h1 ⊢
  rw [h.off _ (by rw [hb]; exact hB ad had)]
  exact h1
theorem Sim.whl (h : Sim B G G') {A : Option Addr} {xs : List Value} (hW : Whl G A xs) (h1 : ∀ v ∈ xs, v.oneCell' = true) : ∃ ys, ys.length = xs.length ∧ Whl G' A ys ∧ ∀ v ∈ ys, v.oneCell' = true := by
  cases A with
  | none => exact ⟨xs, rfl, (fun ad had => by cases had), h1⟩
  | some ad =>
    obtain ⟨hsp, hof, cur, T, h3, h4⟩ := hW ad rfl
    rcases Classical.em (B ad.block) with hb | hb
    · obtain ⟨cs', h5, h6, h7⟩ := h.on _ hb cur T h3
      have hsz : xs.length ≤ cur.size := by
        have := congrArg List.length h4
        rw [List.length_take] at this
        simp at this; omega
      have hl : (cs'.toList.take xs.length).length = xs.length := by rw [List.length_take]; simp; omega
      refine ⟨cs'.toList.take xs.length, hl, fun a' ha' => ?_, fun v hv => ?_⟩
      · cases ha'
        exact ⟨hsp, hof, cs', T, h5, by rw [hl]⟩
      · obtain ⟨j, hj⟩ := List.getElem?_of_mem hv
        rw [List.getElem?_take] at hj
        split at hj
        case isFalse => cases hj
        rename_i hjl
        rcases h7 j v (by simpa using hj) with h8 | h8
        · refine h1 v (List.mem_of_getElem? (i := j) ?_)
          rw [← h4, List.getElem?_take, if_pos hjl]
          simpa using h8
        · exact h8
    · exact ⟨xs, rfl, (fun a' ha' => by cases ha'; exact ⟨hsp, hof, cur, T, by rw [h.off _ hb]; exact h3, h4⟩), h1⟩
/-- A slice whose block may have been written. -/
theorem Sim.sl (h : Sim B G G') {A : Option Addr} {n c sz : Nat} {xs : List Value} (hW : Whl G A xs) (hs : Sl G A n c sz xs) : ∃ ys, Whl G' A ys ∧ Sl G' A n c sz ys := by
  obtain ⟨ys, h1, h2, h3⟩ := h.whl hW hs.ones
  exact ⟨ys, h2, h2.sl (by rw [h1, hs.len]) hs.cap hs.top hs.nil h3⟩
/-- A store into such a slice. -/
theorem th_sim {a ad : Addr} {xs ys : List Value} {j : Nat} {u : Value} {fr : List SV} {Hs : List Ob} {K : St → Prop} (hS : Sim B G G') (hW0 : Whl G (some a) xs) (hW : Whl G' (some a) ys) (hB : B a.block) (hE : ∀ b, B b → E.G0 b = none) (hj : j < ys.length) (had : ad = a.add j) (hu : u.oneCell' = true)
    (hK : ∀ G2, Sim B G G2 → K ⟨fr, Hs, G2⟩) :
    ∃ (cs : Array Value) (T' : TypeId), G' ad.block = some (.cells cs T' (0, 0)) ∧ E.G0 ad.block = none ∧ ad.spot = none ∧ ad.off < cs.size ∧ u.oneCell' = true ∧ K ⟨fr, Hs, putG G' ad.block (.cells (cs.toList.set ad.off u).toArray T' (0, 0))⟩ := by
  obtain ⟨hsp, hof, cur, T, h3, h4⟩ := hW a rfl
  obtain ⟨_, _, cur0, T0, h30, _⟩ := hW0 a rfl
  obtain ⟨b, off, spot⟩ := a
  dsimp only at hsp hof h3 h30 hB
  subst hsp hof
  rw [add_off, Nat.zero_add] at had
  subst had
  have hsz : ys.length ≤ cur.size := by
    have := congrArg List.length h4
    rw [List.length_take] at this
    simp at this; omega
  refine ⟨cur, T, h3, hE _ hB, rfl, by dsimp only; omega, hu, hK _ ⟨fun k hk => ?_, fun k hk cs T2 h9 => ?_⟩⟩
  · unfold putG
    rw [if_neg (fun e => hk (by rw [e]; exact hB))]
    exact hS.off k hk
  · unfold putG
    by_cases hkb : k = b
    · subst hkb
      obtain ⟨cs', h5, h6, h7⟩ := hS.on _ hk cs T2 h9
      rw [h3] at h5
      simp only [Option.some.injEq, Obj.cells.injEq] at h5
      obtain ⟨rfl, rfl, _⟩ := h5
      refine ⟨(cur.toList.set j u).toArray, by rw [if_pos rfl], by simpa using h6, fun q v hq => ?_⟩
      simp only [List.getElem?_toArray, List.getElem?_set] at hq
      split at hq
      · split at hq
        · cases hq; exact .inr hu
        · cases hq
      · exact h7 q v (by simpa using hq)
    · rw [if_neg hkb]
      exact hS.on k hk cs T2 h9
theorem th_simx {A : Option Addr} {ad adf : Addr} {xs ys : List Value} {j0 fld : Nat} (u : Value) (hS : Sim B G G') (hW0 : Whl G A xs) (hW : Whl G' A ys) (hB : ∀ a, A = some a → B a.block) (hE : ∀ b, B b → E.G0 b = none) (hadr : ∃ a0, A = some a0 ∧ ad = a0.add j0) (hadf : adf = ad.add fld) (hj : j0 + fld < ys.length) (hu : u.oneCell' = true) :
    ∃ (cs : Array Value) (T' : TypeId), G' adf.block = some (.cells cs T' (0, 0)) ∧ E.G0 adf.block = none ∧ adf.spot = none ∧ adf.off < cs.size ∧ Sim B G (putG G' adf.block (.cells (cs.toList.set adf.off u).toArray T' (0, 0))) := by
  obtain ⟨a0, rfl, rfl⟩ := hadr
  obtain ⟨cs, T', h1, h2, h3, h4, _, h5⟩ := th_sim (ad := adf) (fr := []) (Hs := []) (K := fun s => Sim B G s.G) hS hW0 hW (hB a0 rfl) hE hj (by rw [hadf, Go.Deep.add_add]) hu (fun G' h6 => h6)
  exact ⟨cs, T', h1, h2, h3, h4, h5⟩
end
end Go.SX
