/- A symbolic walk: a region whose order is drawn, by one plan. -/
import Derived.Test.YtgdfhpknhcjipaaSX8
namespace Go.SX
set_option linter.unusedVariables false
set_option linter.unusedSimpArgs false

def anc (ops : Array Oper) : Nat → Nat → Nat → Bool
  | 0, _, _ => false
  | n + 1, j, k => match ops[j]? with
    | some o => o.after.any fun e => Region.binds .any e && (e.on == k || anc ops n e.on k)
    | none => false

def Closed (ops : Array Oper) (listed : Array Bool) : Prop :=
  ∀ j o, ops[j]? = some o → listed.getD j false = true → ∀ e ∈ o.after, Region.binds .any e = true → listed.getD e.on false = true

theorem anc_listed {ops : Array Oper} {listed : Array Bool} (hc : Closed ops listed) : ∀ (n j k : Nat), (∀ o, ops[j]? = some o → ∀ e ∈ o.after, Region.binds .any e = true → listed.getD e.on false = true) →
    anc ops n j k = true → listed.getD k false = true
  | 0, j, k, _, h => by simp [anc] at h
  | n + 1, j, k, hj, h => by
    simp only [anc] at h
    split at h
    case h_2 => simp at h
    rename_i o ho
    obtain ⟨e, he, hb⟩ := Array.any_eq_true'.1 h
    simp only [Bool.and_eq_true, Bool.or_eq_true, beq_iff_eq] at hb
    have hl := hj o ho e he hb.1
    rcases hb.2 with h1 | h1
    · rw [← h1]; exact hl
    · exact anc_listed hc n e.on k (fun o' ho' => hc e.on o' ho' hl) h1

abbrev Rl := List (Nat × (World → Prop))
def Pres (ops : Array Oper) (R : Rl) (i : Nat) (w w' : World) : Prop := ∀ r ∈ R, anc ops ops.size i r.1 = false → r.2 w → r.2 w'

section
variable {P : Program} {ops : Array Oper} {Q : Exit → Act → World → Prop}

def wpAnyO (P : Program) (ops : Array Oper) (Q : Exit → Act → World → Prop) (R : Rl) : Nat → Array Bool → Act → World → Prop
  | 0, listed, a, w => Region.ready .any ops listed = [] ∧ Q .normal a w
  | fuel + 1, listed, a, w =>
    (Region.ready .any ops listed = [] → Q .normal a w) ∧
    ∀ i ∈ Region.ready .any ops listed, wpOp P ops Q i (fun a' w' => Pres ops R i w w' ∧ wpAnyO P ops Q R fuel (listed.setIfInBounds i true) a' w') a w

theorem wpAnyO_sub {R R' : Rl} (hR : ∀ r ∈ R', r ∈ R) : ∀ (fuel : Nat) (listed : Array Bool) (a : Act) (w : World), wpAnyO P ops Q R fuel listed a w → wpAnyO P ops Q R' fuel listed a w
  | 0, _, _, _, h => h
  | fuel + 1, listed, a, w, h => ⟨h.1, fun i hi => wpOp_mono (fun a' w' hh => ⟨fun r hr => hh.1 r (hR r hr), wpAnyO_sub hR fuel _ _ _ hh.2⟩) (h.2 i hi)⟩

theorem wpAnyO_any {R : Rl} : ∀ (fuel : Nat) (listed : Array Bool) (a : Act) (w : World), wpAnyO P ops Q R fuel listed a w → wpAny P .any ops Q fuel listed a w
  | 0, _, _, _, h => h
  | fuel + 1, listed, a, w, h => ⟨h.1, fun i hi => wpOp_mono (fun a' w' hh => wpAnyO_any fuel _ _ _ hh.2) (h.2 i hi)⟩

def Alike (ops : Array Oper) (oi : Oper) (a a' : Act) : Prop := execOp a'.eval oi = execOp a.eval oi ∧ Region.wanted oi (yielded ops a'.tmps) = Region.wanted oi (yielded ops a.tmps)

theorem wpOp_put' {j : Nat} {oi oj : Oper} {v : Value} (hj : ops[j]? = some oj) (hap : oi.apart ops oj = true)
    (hsi : ∀ cs b, oi.op ≠ .select cs b) (hsj : ∀ cs b, oj.op ≠ .select cs b)
    (hQ : ∀ c a w, Q (.panic c) (a.put oi.dst v) w → Q (.panic c) a w) {K : Act → World → Prop} {a : Act} {w : World}
    (h : wpOp P ops Q j K (a.put oi.dst v) w) :
    wpOp P ops Q j (fun a' w' => Alike ops oi a a' ∧ K (a'.put oi.dst v) w') a w := by
  obtain ⟨h1, h2, h3⟩ := Oper.apart_spec hap
  have keep : ∀ u, Alike ops oi a (a.put oj.dst u) := fun u => ⟨execOp_put oi hsi a oj.dst u h3, wanted_put oi a oj.dst u h3⟩
  have keepD : ∀ d u, Alike ops oi a (({ a with defers := d :: a.defers } : Act).put oj.dst u) := fun d u =>
    ⟨(execOp_put oi hsi { a with defers := d :: a.defers } oj.dst u h3), (wanted_put oi { a with defers := d :: a.defers } oj.dst u h3)⟩
  unfold wpOp at *
  simp only [hj] at *
  rw [wanted_put oj a oi.dst v h1] at h
  split
  · rename_i hw
    simp only [hw, if_true] at h
    rcases h with h | ⟨hasks, hlets⟩
    case inr => exact .inr ⟨by unfold Oper.asks at *; rw [execOp_put oj hsj a oi.dst v h1] at hasks; exact hasks, hlets⟩
    refine .inl ?_
    unfold Oper.wp at *
    rw [execOp_put oj hsj a oi.dst v h1] at h
    generalize (execOp a.eval oj).run P w = r at *
    cases r with
    | ok n w' =>
      cases n <;> simp only [Oper.upon] at h ⊢
      case value u => exact ⟨keep u, by rw [← Act.put_comm a v u h2]; exact h⟩
      case skip => exact ⟨keep _, by rw [← Act.put_comm a v undef h2]; exact h⟩
      case defer d =>
        refine ⟨keepD d _, ?_⟩
        rw [← Act.put_comm _ v undef h2, ← Act.put_defers]
        exact h
      case enter f args =>
        refine Calls.mono h fun e w'' he => ?_
        cases e with
        | returned u => exact ⟨keep u, by rw [← Act.put_comm a v u h2]; exact he⟩
        | panicked c => exact hQ _ _ _ he
        | outgrown => exact he
      case row row args => exact Rows.mono h fun u w'' he => ⟨keep u, by rw [← Act.put_comm a v u h2]; exact he⟩
    | halt x w' =>
      cases x <;> simp only [Oper.upon] at h ⊢
      case panic u => exact hQ _ _ _ h
  · rename_i hw
    simp only [hw] at h
    exact ⟨keep _, by rw [← Act.put_comm a v undef h2]; exact h⟩

/-- What a quiet operation yields wherever I holds. -/
def YieldsI (P : Program) (ops : Array Oper) (o : Oper) (v : Value) (I : World → Prop) (a : Act) : Prop :=
  (Region.wanted o (yielded ops a.tmps) = true ∧ ∀ w, I w → (execOp a.eval o).run P w = .ok (.value v) w) ∨
  (Region.wanted o (yielded ops a.tmps) = false ∧ v = undef)
theorem YieldsI.alike {o : Oper} {v : Value} {I : World → Prop} {a a' : Act} (hy : YieldsI P ops o v I a) (h : Alike ops o a a') : YieldsI P ops o v I a' := by
  unfold YieldsI at *
  rw [h.1, h.2]
  exact hy
theorem YieldsI.wpOp {i : Nat} {o : Oper} {v : Value} {I : World → Prop} {a : Act} (hi : ops[i]? = some o) (hy : YieldsI P ops o v I a)
    {K : Act → World → Prop} {w : World} (hI : I w) (h : K (a.put o.dst v) w) : wpOp P ops Q i K a w := by
  unfold Go.wpOp
  simp only [hi]
  rcases hy with ⟨hw, hv⟩ | ⟨hw, rfl⟩
  · simp only [hw, if_true, Oper.wp, hv w hI, Oper.upon]; exact .inl h
  · simp only [hw, Bool.false_eq_true, if_false]; exact h

theorem closed_set {listed : Array Bool} (hc : Closed ops listed) {i : Nat} (hi : i ∈ Region.ready .any ops listed) : Closed ops (listed.setIfInBounds i true) := by
  intro j o ho hl e he hb
  by_cases hij : i = j
  · subst hij
    obtain ⟨_, o', ho', hall⟩ := mem_ready.1 hi
    rw [ho] at ho'; simp at ho'; subst ho'
    exact getD_set_true (hall e he hb)
  · rw [getD_set_ne false hij] at hl
    exact getD_set_true (hc j o ho hl e he hb)

theorem wpAnyO_take {i : Nat} {oi : Oper} {v : Value} {I : World → Prop} {R : Rl} (hi : ops[i]? = some oi) (hsel : ∀ (j : Nat) (o : Oper) cs b, ops[j]? = some o → o.op ≠ .select cs b)
    (hQ : ∀ c a w, Q (.panic c) (a.put oi.dst v) w → Q (.panic c) a w) :
    ∀ (fuel : Nat) (listed : Array Bool) (a : Act) (w : World), Closed ops listed →
      (∀ j oj, ops[j]? = some oj → j ≠ i → listed.getD j true = false → (∀ e ∈ oj.after, Region.binds .any e = true → e.on ≠ i) → oi.apart ops oj = true) →
      i ∈ Region.ready .any ops listed → YieldsI P ops oi v I a → I w →
      wpAnyO P ops Q ((i, I) :: R) fuel (listed.setIfInBounds i true) (a.put oi.dst v) w → wpAnyO P ops Q R (fuel + 1) listed a w := by
  intro fuel
  induction fuel with
  | zero =>
    intro listed a w hcl _ hr hy hIw H
    refine ⟨fun h => (by rw [h] at hr; cases hr), fun j hj => ?_⟩
    by_cases hji : j = i
    · subst hji; exact hy.wpOp hi hIw ⟨fun _ _ _ h => h, wpAnyO_sub (fun r hr => List.mem_cons_of_mem _ hr) 0 _ _ _ H⟩
    · have := ready_mono hj hji
      rw [H.1] at this
      cases this
  | succ fuel ih =>
    intro listed a w hcl hfree hr hy hIw H
    refine ⟨fun h => (by rw [h] at hr; cases hr), fun j hj => ?_⟩
    by_cases hji : j = i
    · subst hji; exact hy.wpOp hi hIw ⟨fun _ _ _ h => h, wpAnyO_sub (fun r hr => List.mem_cons_of_mem _ hr) _ _ _ _ H⟩
    · have h1 := H.2 j (ready_mono hj hji)
      obtain ⟨hjun, oj, hoj, hall⟩ := mem_ready.1 hj
      have hiun := (mem_ready.1 hr).1
      have hif : listed.getD i false = false := by
        rcases Nat.lt_or_ge i listed.size with h' | h'
        · simpa [h'] using hiun
        · simp [Array.getElem?_eq_none h']
      have hnot : ∀ e ∈ oj.after, Region.binds .any e = true → e.on ≠ i := fun e he hb heq => by
        have h1 := hall e he hb
        rw [heq, hif] at h1; cases h1
      have hanc : anc ops ops.size j i = false := by
        cases hh : anc ops ops.size j i with
        | false => rfl
        | true =>
          have := anc_listed hcl ops.size j i (fun o ho e he hb => by rw [hoj] at ho; simp at ho; subst ho; exact hall e he hb) hh
          rw [hif] at this; cases this
      have h2 := wpOp_put' hoj (hfree j oj hoj hji hjun hnot) (fun cs b => hsel i oi cs b hi) (fun cs b => hsel j oj cs b hoj) hQ h1
      have hfree' : ∀ k ok, ops[k]? = some ok → k ≠ i → (listed.setIfInBounds j true).getD k true = false →
          (∀ e ∈ ok.after, Region.binds .any e = true → e.on ≠ i) → oi.apart ops ok = true := fun k ok hk hki hun hno => by
        refine hfree k ok hk hki ?_ hno
        by_cases hjk : j = k
        · subst hjk; exact hjun
        · rw [getD_set_ne true hjk] at hun; exact hun
      refine wpOp_mono (fun a' w' h3 => ⟨fun r hr' => h3.2.1 r (List.mem_cons_of_mem _ hr'), ?_⟩) h2
      refine ih (listed.setIfInBounds j true) a' w' (closed_set hcl hj) hfree' (ready_mono hr (Ne.symm hji)) (hy.alike h3.1) (h3.2.1 (i, I) (by simp) hanc hIw) ?_
      rw [Array.setIfInBounds_comm _ _ hji]
      exact h3.2.2

theorem wpAnyO_only {i : Nat} {R : Rl} {fuel : Nat} {listed : Array Bool} {a : Act} {w : World} (hr : Region.ready .any ops listed = [i])
    (h : wpOp P ops Q i (fun a' w' => Pres ops R i w w' ∧ wpAnyO P ops Q R fuel (listed.setIfInBounds i true) a' w') a w) : wpAnyO P ops Q R (fuel + 1) listed a w :=
  ⟨fun h0 => (by rw [hr] at h0; cases h0), fun j hj => by rw [hr] at hj; simp at hj; subst hj; exact h⟩

theorem wpAnyO_done {R : Rl} {listed : Array Bool} {a : Act} {w : World} (hr : Region.ready .any ops listed = []) (h : Q .normal a w) : ∀ fuel, wpAnyO P ops Q R fuel listed a w
  | 0 => ⟨hr, h⟩
  | _ + 1 => ⟨fun _ => h, by rw [hr]; simp⟩
end
end Go.SX
