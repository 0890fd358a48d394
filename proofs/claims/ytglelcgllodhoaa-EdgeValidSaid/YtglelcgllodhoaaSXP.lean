/- A symbolic walk: the plan of a long region, checked fast. -/
import Derived.Test.YtglelcgllodhoaaSXg
namespace Go.SX
set_option linter.unusedVariables false
set_option linter.unusedSimpArgs false
/-- The operations that one waits for. -/
def prd (ops : Array Oper) (j : Nat) : List Nat := match ops[j]? with
  | some o => (o.after.toList.filter fun e => Region.binds .any e).map fun e => e.on
  | none => []
theorem anc_prd (ops : Array Oper) (n j k : Nat) : anc ops (n + 1) j k = true ↔ ∃ x ∈ prd ops j, x = k ∨ anc ops n x k = true := by
  simp only [anc, prd]
  cases hj : ops[j]? with
  | none => simp
  | some o =>
    simp only [Array.any_eq_true', Bool.and_eq_true, Bool.or_eq_true, beq_iff_eq, List.mem_map, List.mem_filter, Array.mem_toList_iff]
    constructor
    · rintro ⟨e, he, hb, h⟩; exact ⟨e.on, ⟨e, ⟨he, hb⟩, rfl⟩, h⟩
    · rintro ⟨_, ⟨e, ⟨he, hb⟩, rfl⟩, h⟩; exact ⟨e, he, hb, h⟩
theorem anc_up (ops : Array Oper) : ∀ (n j k : Nat), anc ops n j k = true → anc ops (n + 1) j k = true
  | 0, j, k, h => by simp [anc] at h
  | n + 1, j, k, h => by
    obtain ⟨x, hx, h1⟩ := (anc_prd ops n j k).1 h
    exact (anc_prd ops (n + 1) j k).2 ⟨x, hx, h1.imp id (anc_up ops n x k)⟩
theorem anc_le (ops : Array Oper) {n m j k : Nat} (h : anc ops n j k = true) (hm : n ≤ m) : anc ops m j k = true := by
  induction hm with
  | refl => exact h
  | step _ ih => exact anc_up ops _ j k ih
theorem anc_ext (ops : Array Oper) : ∀ (n j x y : Nat), anc ops n j x = true → y ∈ prd ops x → anc ops (n + 1) j y = true
  | 0, j, x, y, h, _ => by simp [anc] at h
  | n + 1, j, x, y, h, hy => by
    obtain ⟨z, hz, h1⟩ := (anc_prd ops n j x).1 h
    refine (anc_prd ops (n + 1) j y).2 ⟨z, hz, .inr ?_⟩
    rcases h1 with rfl | h1
    · exact (anc_prd ops n z y).2 ⟨y, hy, .inl rfl⟩
    · exact anc_ext ops n z x y h1 hy
/-- All that one waits for, of which some is seen and some is left to do. -/
def clo (ops : Array Oper) : Nat → List Nat → List Nat → List Nat
  | 0, _, seen => seen
  | n + 1, [], seen => seen
  | n + 1, x :: todo, seen => match memN x seen with
    | true => clo ops n todo seen
    | false => clo ops n (prd ops x ++ todo) (x :: seen)
def downB (ops : Array Oper) : Bool := (List.range ops.size).all fun j => (prd ops j).all fun y => Nat.blt y j
theorem down_ok {ops : Array Oper} (h : downB ops = true) (j y : Nat) (hy : y ∈ prd ops j) : y < j := by
  by_cases hj : j < ops.size
  · have h1 := List.all_eq_true.1 h j (List.mem_range.2 hj)
    have h2 := List.all_eq_true.1 h1 y hy
    simp [Nat.blt] at h2
    omega
  · unfold prd at hy
    rw [Array.getElem?_eq_none (by omega)] at hy
    simp at hy
theorem clo_ok {ops : Array Oper} (hd : downB ops = true) (j : Nat) : ∀ (n : Nat) (todo seen : List Nat),
    (∀ x ∈ todo, x < j ∧ anc ops (j - x) j x = true) → (∀ x ∈ seen, x < j ∧ anc ops (j - x) j x = true) → ∀ x ∈ clo ops n todo seen, x < j ∧ anc ops (j - x) j x = true
  | 0, _, seen, _, hs, x, hx => hs x hx
  | n + 1, [], seen, _, hs, x, hx => hs x hx
  | n + 1, y :: todo, seen, ht, hs, x, hx => by
    simp only [clo] at hx
    split at hx
    · exact clo_ok hd j n todo seen (fun z hz => ht z (List.mem_cons_of_mem _ hz)) hs x hx
    · refine clo_ok hd j n _ _ (fun z hz => ?_) (fun z hz => ?_) x hx
      · rcases List.mem_append.1 hz with hz | hz
        · have h1 := ht y (by simp)
          have h2 := down_ok hd y z hz
          refine ⟨by omega, anc_le ops (anc_ext ops _ j y z h1.2 hz) (by omega)⟩
        · exact ht z (List.mem_cons_of_mem _ hz)
      · rcases List.mem_cons.1 hz with rfl | hz
        · exact ht z (by simp)
        · exact hs z hz
def ancF (ops : Array Oper) (i : Nat) (ks : List Nat) : Bool := match ks with
  | [] => true
  | _ => (fun S : List Nat => ks.all fun k => memN k S) (clo ops (ops.size * ops.size) (prd ops i) [])
theorem ancF_ok {ops : Array Oper} (hd : downB ops = true) {i : Nat} (hi : i < ops.size) {ks : List Nat} (h : ancF ops i ks = true) : ks.all (anc ops ops.size i) = true := by
  refine List.all_eq_true.2 fun k hk => ?_
  have h1 : ks.all (fun k => memN k (clo ops (ops.size * ops.size) (prd ops i) [])) = true := by
    cases ks with
    | nil => simp at hk
    | cons a l => exact h
  have h2 := memN_iff.1 (List.all_eq_true.1 h1 k hk)
  have h3 := clo_ok hd i _ _ _ (fun x hx => ⟨down_ok hd i x hx, by
    have h4 := down_ok hd i x hx
    obtain ⟨m, hm⟩ : ∃ m, i - x = m + 1 := ⟨i - x - 1, by omega⟩
    rw [hm]
    exact (anc_prd ops m i x).2 ⟨x, hx, .inl rfl⟩⟩) (by simp) k h2
  exact anc_le ops h3.2 (by omega)
mutual
def planOkF (ops : Array Oper) : PT → Array Bool → List Nat → Bool
  | .nil, listed, _ => (Region.ready .any ops listed).isEmpty
  | .cons i ks pl, listed, rel => match ops[i]? with
    | some o => if isEff o.op then Region.ready .any ops listed == [i] && rel.all ks.contains && ancF ops i ks && planOkF ops pl (listed.setIfInBounds i true) ks
      else (Region.ready .any ops listed).contains i && Region.free .any ops listed i && planOkF ops pl (listed.setIfInBounds i true) rel
    | none => false
  | .alt a b, listed, rel => !(Region.ready .any ops listed).isEmpty && (Region.ready .any ops listed).all (a.heads ++ b.heads).contains && altOkF ops a listed rel && altOkF ops b listed rel
def altOkF (ops : Array Oper) : PT → Array Bool → List Nat → Bool
  | .nil, _, _ => false
  | .cons i ks pl, listed, rel => match ops[i]? with
    | some o => isEff o.op && rel.all ks.contains && ancF ops i ks && planOkF ops pl (listed.setIfInBounds i true) ks
    | none => false
  | .alt a b, listed, rel => altOkF ops a listed rel && altOkF ops b listed rel
end
theorem lt_of_get {ops : Array Oper} {i : Nat} {o : Oper} (h : ops[i]? = some o) : i < ops.size := (Array.getElem?_eq_some_iff.1 h).1
mutual
theorem planF_ok {ops : Array Oper} (hd : downB ops = true) : ∀ (pl : PT) (listed : Array Bool) (rel : List Nat), planOkF ops pl listed rel = true → planOk ops pl listed rel = true
  | .nil, listed, rel, h => by simpa only [planOkF, planOk] using h
  | .cons i ks pl, listed, rel, h => by
    simp only [planOkF] at h
    simp only [planOk]
    cases ho : ops[i]? with
    | none => rw [ho] at h; simp at h
    | some o =>
      rw [ho] at h
      simp only at h ⊢
      split
      · rename_i he
        rw [if_pos he] at h
        simp only [Bool.and_eq_true] at h ⊢
        exact ⟨⟨h.1.1, ancF_ok hd (lt_of_get ho) h.1.2⟩, planF_ok hd pl _ _ h.2⟩
      · rename_i he
        rw [if_neg he] at h
        simp only [Bool.and_eq_true] at h ⊢
        exact ⟨h.1, planF_ok hd pl _ _ h.2⟩
  | .alt a b, listed, rel, h => by
    simp only [planOkF, Bool.and_eq_true] at h
    simp only [planOk, Bool.and_eq_true]
    exact ⟨⟨h.1.1, altF_ok hd a _ _ h.1.2⟩, altF_ok hd b _ _ h.2⟩
theorem altF_ok {ops : Array Oper} (hd : downB ops = true) : ∀ (pl : PT) (listed : Array Bool) (rel : List Nat), altOkF ops pl listed rel = true → altOk ops pl listed rel = true
  | .nil, listed, rel, h => by simp [altOkF] at h
  | .cons i ks pl, listed, rel, h => by
    simp only [altOkF] at h
    simp only [altOk]
    cases ho : ops[i]? with
    | none => rw [ho] at h; simp at h
    | some o =>
      rw [ho] at h
      simp only [Bool.and_eq_true] at h ⊢
      exact ⟨⟨h.1.1, ancF_ok hd (lt_of_get ho) h.1.2⟩, planF_ok hd pl _ _ h.2⟩
  | .alt a b, listed, rel, h => by
    simp only [altOkF, Bool.and_eq_true] at h
    simp only [altOk, Bool.and_eq_true]
    exact ⟨altF_ok hd a _ _ h.1, altF_ok hd b _ _ h.2⟩
end
def drawOkF (ops : Array Oper) (pl : Plan2) : Bool := downB ops && (Region.noSelect ops && Nat.ble pl.len ops.size && planOkF ops pl (Array.replicate ops.size false) [])
theorem drw_fast {ops : Array Oper} {pl : Plan2} {A : Prop} (h : drawOkF ops pl = true) (ha : A) : DrawVC ops pl A := by
  unfold drawOkF at h
  simp only [Bool.and_eq_true] at h
  refine ⟨?_, ha⟩
  unfold drawOk
  simp only [Bool.and_eq_true]
  exact ⟨h.2.1, planF_ok h.1 pl _ _ h.2.2⟩
end Go.SX
