/- A symbolic walk: a region by a plan; code; a whole function. -/
import Derived.Test.YtgdfhpknhcjipaaSX9
namespace Go.SX
set_option linter.unusedVariables false
set_option linter.unusedSimpArgs false
section
variable {E : Env} {ρ : List Value} {H : List Ob} {G : Gh} {w : World}

abbrev Plan := List (Nat × List Nat)
/-- A plan: steps; where several effects are ready at once, two ways of going on. -/
inductive PT where
  | nil
  | cons (i : Nat) (ks : List Nat) (pl : PT)
  | alt (a b : PT)
abbrev Plan2 := PT
def PT.len : PT → Nat
  | .nil => 0
  | .cons _ _ pl => pl.len + 1
  | .alt a b => max a.len b.len
def PT.heads : PT → List Nat
  | .nil => []
  | .cons i _ _ => [i]
  | .alt a b => a.heads ++ b.heads
mutual
def planOk (ops : Array Oper) : PT → Array Bool → List Nat → Bool
  | .nil, listed, _ => (Region.ready .any ops listed).isEmpty
  | .cons i ks pl, listed, rel => match ops[i]? with
    | some o => if isEff o.op then Region.ready .any ops listed == [i] && rel.all ks.contains && ks.all (anc ops ops.size i) && planOk ops pl (listed.setIfInBounds i true) ks
      else (Region.ready .any ops listed).contains i && Region.free .any ops listed i && planOk ops pl (listed.setIfInBounds i true) rel
    | none => false
  | .alt a b, listed, rel => !(Region.ready .any ops listed).isEmpty && (Region.ready .any ops listed).all (a.heads ++ b.heads).contains && altOk ops a listed rel && altOk ops b listed rel
/-- The plan of an alternative: its first step is one of several effects. -/
def altOk (ops : Array Oper) : PT → Array Bool → List Nat → Bool
  | .nil, _, _ => false
  | .cons i ks pl, listed, rel => match ops[i]? with
    | some o => isEff o.op && rel.all ks.contains && ks.all (anc ops ops.size i) && planOk ops pl (listed.setIfInBounds i true) ks
    | none => false
  | .alt a b, listed, rel => altOk ops a listed rel && altOk ops b listed rel
end
def drawOk (ops : Array Oper) (pl : Plan2) : Bool := Region.noSelect ops && Nat.ble pl.len ops.size && planOk ops pl (Array.replicate ops.size false) []

def memN : Nat → List Nat → Bool
  | _, [] => false
  | k, x :: xs => match Nat.beq k x with
    | true => true
    | false => memN k xs
theorem memN_iff {k : Nat} : ∀ {l : List Nat}, memN k l = true ↔ k ∈ l
  | [] => by simp [memN]
  | x :: xs => by
    simp only [memN, List.mem_cons]
    split
    · rename_i h; simp [Nat.eq_of_beq_eq_true h]
    · rename_i h
      have : k ≠ x := fun e => by subst e; simp at h
      simp [this, memN_iff]
def disj : List Nat → List Nat → Bool
  | [], _ => true
  | x :: xs, T => match memN x T with
    | true => false
    | false => disj xs T
theorem disj_ok : ∀ {xs T : List Nat}, disj xs T = true → ∀ x ∈ xs, x ∉ T
  | [], T, _ => by simp
  | y :: ys, T, h => by
    simp only [disj] at h
    split at h
    · simp at h
    · rename_i hm
      intro x hx
      rcases List.mem_cons.1 hx with rfl | hx
      · intro hT; rw [memN_iff.2 hT] at hm; simp at hm
      · exact disj_ok h x hx
def chkR : Plan → List Nat → List Nat → Bool
  | [], _, _ => true
  | (k, rd) :: R, ks, T => match memN k ks with
    | true => chkR R ks T
    | false => match disj rd T with
      | true => chkR R ks T
      | false => false
theorem chkR_ok : ∀ {R : Plan} {ks T : List Nat}, chkR R ks T = true → ∀ k rd, (k, rd) ∈ R → k ∉ ks → ∀ x ∈ rd, x ∉ T
  | [], _, _, _ => by simp
  | (k0, rd0) :: R, ks, T, h => by
    simp only [chkR] at h
    intro k rd hm hk
    split at h
    · rename_i h0
      rcases List.mem_cons.1 hm with he | hm
      · simp at he; exact absurd (by rw [he.1]; exact memN_iff.1 h0) hk
      · exact chkR_ok h k rd hm hk
    · split at h
      · rename_i h1
        rcases List.mem_cons.1 hm with he | hm
        · simp at he; rw [he.2]; exact disj_ok h1
        · exact chkR_ok h k rd hm hk
      · simp at h
def dropR : Plan → List Nat → Plan
  | [], _ => []
  | (k, rd) :: R, ks => match memN k ks with
    | true => dropR R ks
    | false => (k, rd) :: dropR R ks
theorem dropR_ok : ∀ {R : Plan} {ks : List Nat} {k : Nat} {rd : List Nat}, (k, rd) ∈ R → k ∉ ks → (k, rd) ∈ dropR R ks
  | [], _, _, _, h, _ => by simp at h
  | (k0, rd0) :: R, ks, k, rd, h, hk => by
    simp only [dropR]
    rcases List.mem_cons.1 h with he | hm
    · simp at he
      split
      · rename_i h0; exact absurd (by rw [he.1]; exact memN_iff.1 h0) hk
      · simp [he]
    · split
      · exact dropR_ok hm hk
      · exact List.mem_cons_of_mem _ (dropR_ok hm hk)

def sxPl2 (P : Program) (E : Env) (all : List Oper) : PT → Plan → (St → Prop) → St → Prop
  | .nil, _, K, s => K s
  | .cons i ks pl, R, K, s => match nth all i with
    | some o => sxGuard all o s
      (fun s => match isEff o.op with
        | true => effOp P E o s fun T v s' => match chkR R ks T with
          | true => putS o.dst v s' (sxPl2 P E all pl (dropR R ks) K)
          | false => Bad o
        | false => quOp P o s fun v => putS o.dst v s (sxPl2 P E all pl ((i, rdOf s o) :: R) K))
      (fun s => match isEff o.op with
        | true => putS o.dst (.v undef) s (sxPl2 P E all pl (dropR R ks) K)
        | false => putS o.dst (.v undef) s (sxPl2 P E all pl ((i, []) :: R) K))
    | none => False
  | .alt a b, R, K, s => sxPl2 P E all a R K s ∧ sxPl2 P E all b R K s

def Conn (ρ : List Value) (G : Gh) (R : Plan) (rel : List Nat) (r : Nat × (World → Prop)) : Prop :=
  r.1 ∈ rel ∨ ∃ rd, (r.1, rd) ∈ R ∧ ∀ w1 w2 : World, (∀ b, ((∃ o, G b = some o) ∨ ∃ i ∈ rd, ∃ x, ρ[i]? = some x ∧ blkOf x = some b) → w2.heap[b]? = w1.heap[b]?) → r.2 w1 → r.2 w2

theorem pres_eff {ops : Array Oper} (hA : Ag E ρ H G w) {ρ' : List Value} {G' : Gh} {w' : World} {T ks rel : List Nat} {R : Plan} {RS : Rl} {i : Nat} (hfp : Fp ρ ρ' G G' T w w') (hc : chkR R ks T = true)
    (hks : ks.all (anc ops ops.size i) = true) (hrel : rel.all ks.contains = true) (hRS : ∀ r ∈ RS, Conn ρ G R rel r) :
    Pres ops RS i w w' ∧ ∀ r ∈ RS, Conn ρ' G' (dropR R ks) ks r := by
  have hanc : ∀ k ∈ ks, anc ops ops.size i k = true := fun k hk => List.all_eq_true.1 hks k hk
  have hin : ∀ k ∈ rel, k ∈ ks := fun k hk => by simpa using List.all_eq_true.1 hrel k hk
  constructor
  · intro r hr hno hI
    rcases hRS r hr with h | ⟨rd, hm, himp⟩
    · rw [hanc _ (hin _ h)] at hno; simp at hno
    · by_cases hk : r.1 ∈ ks
      · rw [hanc _ hk] at hno; simp at hno
      · have hd := chkR_ok hc _ _ hm hk
        refine himp w w' (fun b hb => ?_) hI
        rcases hb with ⟨o, ho⟩ | ⟨j, hj, x, hx, hxb⟩
        · have hlt : b < w.heap.size := by have := hA.ext b o ho; rw [Array.getElem?_eq_some_iff] at this; exact this.1
          refine hfp.blk b hlt fun q hq x hx hxb => ?_
          have := (hA.own q x b hx hxb).2.1
          rw [ho] at this; simp at this
        · refine hfp.blk b (hA.own j x b hx hxb).1 fun q hq y hy hyb => ?_
          have := hA.apart j q x y b hx hy hxb hyb
          subst this
          exact hd j hj hq
  · intro r hr
    rcases hRS r hr with h | ⟨rd, hm, himp⟩
    · exact .inl (hin _ h)
    · by_cases hk : r.1 ∈ ks
      · exact .inl hk
      · have hd := chkR_ok hc _ _ hm hk
        refine .inr ⟨rd, dropR_ok hm hk, fun w1 w2 hb hI => himp w1 w2 (fun b hb' => hb b ?_) hI⟩
        rcases hb' with ⟨o, ho⟩ | ⟨j, hj, x, hx, hxb⟩
        · exact .inl ⟨o, hfp.gh b o ho⟩
        · exact .inr ⟨j, hj, x, hfp.ids j x (hd j hj) hx, hxb⟩

theorem Fp.refl (T : List Nat) : Fp ρ ρ G G T w w := ⟨fun _ _ _ => rfl, fun _ _ _ h => h, fun _ _ h => h⟩

theorem chkR_nil : ∀ (R : Plan) (ks : List Nat), chkR R ks [] = true
  | [], _ => rfl
  | (k, rd) :: R, ks => by
    simp only [chkR]
    split
    · exact chkR_nil R ks
    · have : ∀ l : List Nat, disj l [] = true := by
        intro l
        induction l with
        | nil => rfl
        | cons x xs ih => simp [disj, memN, ih]
      rw [this]; exact chkR_nil R ks

theorem altOk_len (ops : Array Oper) : ∀ (q : PT) (listed : Array Bool) (rel : List Nat), altOk ops q listed rel = true → 0 < q.len
  | .nil, _, _, h => by simp [altOk] at h
  | .cons _ _ _, _, _, _ => by simp [PT.len]
  | .alt a b, listed, rel, h => by
    simp only [altOk, Bool.and_eq_true] at h
    have := altOk_len ops a listed rel h.1
    simp only [PT.len]; omega
mutual
theorem sxPl2_ok {P : Program} {ops : Array Oper} {Q : Exit → Act → World → Prop} (hsel : ∀ (j : Nat) (o : Oper) cs b, ops[j]? = some o → o.op ≠ .select cs b)
    (hQ : ∀ c a d v w, Q (.panic c) (Act.put a d v) w → Q (.panic c) a w) {K : St → Prop}
    (hK : ∀ s', K s' → ∀ ρ' a' w', Ag E ρ' s'.H s'.G w' → Rvs ρ' s'.fr a'.tmps.toList → a'.defers = [] → Q .normal a' w') :
    ∀ (pl : PT) (R : Plan) (RS : Rl) (listed : Array Bool) (rel : List Nat) (fuel : Nat) {s : St} {a : Act} {w : World} {ρ : List Value}, pl.len ≤ fuel →
    planOk ops pl listed rel = true → Closed ops listed → (∀ r ∈ RS, Conn ρ s.G R rel r) →
    sxPl2 P E ops.toList pl R K s → Ag E ρ s.H s.G w → Rvs ρ s.fr a.tmps.toList → a.defers = [] → wpAnyO P ops Q RS fuel listed a w
  | .nil, R, RS, listed, rel, fuel, s, a, w, ρ, _, hp, _, _, hS, hA, hF, hd => by
    simp only [planOk, List.isEmpty_iff] at hp
    simp only [sxPl2] at hS
    exact wpAnyO_done hp (hK s hS ρ a w hA hF hd) fuel
  | .cons i ks pl, R, RS, listed, rel, 0, s, a, w, ρ, hl, hp, hcl, hRS, hS, hA, hF, hd => by simp [PT.len] at hl
  | .cons i ks pl, R, RS, listed, rel, fuel + 1, s, a, w, ρ, hl, hp, hcl, hRS, hS, hA, hF, hd => by
    have hl' : pl.len ≤ fuel := by simpa [PT.len] using hl
    simp only [planOk] at hp
    split at hp
    case h_2 => simp at hp
    rename_i o ho
    simp only [sxPl2, nth_eq] at hS
    have ho' : ops.toList[i]? = some o := by simpa using ho
    rw [ho'] at hS
    simp only at hS
    obtain ⟨s1, h1, h2, h3, hw⟩ := guard_ok hS hF
    simp only [Array.toArray_toList] at hw
    rw [← h1, ← h2] at hA
    rw [← h2] at hRS
    have hd' : ∀ v, (a.put o.dst v).defers = [] := fun v => by cases o.dst <;> exact hd
    by_cases he : isEff o.op = true
    · simp only [he, if_true, Bool.and_eq_true] at hp
      obtain ⟨⟨⟨hr, hrel⟩, hks⟩, hp'⟩ := hp
      have hr' : Region.ready .any ops listed = [i] := by simpa using hr
      have hcl' := closed_set hcl (i := i) (by rw [hr']; simp)
      refine wpAnyO_only hr' ?_
      unfold wpOp
      simp only [ho]
      rcases hw with ⟨hw, hx⟩ | ⟨hw, hx⟩
      · rw [if_pos hw]
        refine .inl ?_
        rw [he] at hx
        refine eff_ok (ρ := ρ) (fun T sv s' hk ρ' v w' hA' hF' hrv hfp => ?_) hx hA h3
        split at hk
        case h_2 => exact hk.no.elim
        rename_i hc
        obtain ⟨s2, hk2, e1, e2, hF2⟩ := putS_ok hk hF' hrv
        obtain ⟨hpres, hRS'⟩ := pres_eff hA hfp hc hks hrel hRS
        refine ⟨hpres, sxPl2_ok hsel hQ hK pl (dropR R ks) RS _ ks fuel hl' hp' hcl' ?_ hk2 (by rw [e1, e2]; exact hA') hF2 (hd' v)⟩
        rw [e2]; exact hRS'
      · rw [if_neg (by simp [hw])]
        rw [he] at hx
        obtain ⟨s2, hk2, e1, e2, hF2⟩ := putS_ok hx h3 (v := undef) (by simp [Rv])
        obtain ⟨hpres, hRS'⟩ := pres_eff (i := i) (ops := ops) hA (Fp.refl []) (chkR_nil R ks) hks hrel hRS
        refine ⟨hpres, sxPl2_ok hsel hQ hK pl (dropR R ks) RS _ ks fuel hl' hp' hcl' ?_ hk2 (by rw [e1, e2]; exact hA) hF2 (hd' _)⟩
        rw [e2]; exact hRS'
    · have he' : isEff o.op = false := by simpa using he
      simp only [he', Bool.false_eq_true, if_false, Bool.and_eq_true] at hp
      obtain ⟨⟨hr, hfree⟩, hp'⟩ := hp
      have hr' : i ∈ Region.ready .any ops listed := by simpa using hr
      have hcl' := closed_set hcl hr'
      have take : ∀ (v : Value) (I : World → Prop), YieldsI P ops o v I a → I w → wpAnyO P ops Q ((i, I) :: RS) fuel (listed.setIfInBounds i true) (a.put o.dst v) w → wpAnyO P ops Q RS (fuel + 1) listed a w :=
        fun v I hy hI h => wpAnyO_take ho hsel (fun c a w => hQ c a _ _ w) fuel listed a w hcl (Region.free_spec ho hfree) hr' hy hI h
      rcases hw with ⟨hw, hx⟩ | ⟨hw, hx⟩
      · rw [he'] at hx
        obtain ⟨v, sv, hk, hrv, hrun⟩ := qu_ok _ a ρ w hx hA h3
        obtain ⟨s2, hk2, e1, e2, hF2⟩ := putS_ok hk h3 hrv
        refine take v (fun w' => Agr s1.G ρ (rdOf s1 o) w w') (.inl ⟨hw, hrun⟩) (Agr.refl _ _ _ _) ?_
        refine sxPl2_ok hsel hQ hK pl ((i, rdOf s1 o) :: R) _ _ rel fuel hl' hp' hcl' ?_ hk2 (by rw [e1, e2]; exact hA) hF2 (hd' v)
        intro r hr
        rw [e2]
        rcases List.mem_cons.1 hr with rfl | hr
        · refine .inr ⟨rdOf s1 o, by simp, fun w1 w2 hb hI => ?_⟩
          exact ⟨fun b o' hg => by rw [hb b (.inl ⟨o', hg⟩)]; exact hI.1 b o' hg, fun j hj x b hx hxb => by rw [hb b (.inr ⟨j, hj, x, hx, hxb⟩)]; exact hI.2 j hj x b hx hxb⟩
        · rcases hRS r hr with h | ⟨rd, hm, himp⟩
          · exact .inl h
          · exact .inr ⟨rd, List.mem_cons_of_mem _ hm, himp⟩
      · rw [he'] at hx
        obtain ⟨s2, hk2, e1, e2, hF2⟩ := putS_ok hx h3 (v := undef) (by simp [Rv])
        refine take undef (fun _ => True) (.inr ⟨hw, rfl⟩) trivial ?_
        refine sxPl2_ok hsel hQ hK pl ((i, []) :: R) _ _ rel fuel hl' hp' hcl' ?_ hk2 (by rw [e1, e2]; exact hA) hF2 (hd' _)
        intro r hr
        rw [e2]
        rcases List.mem_cons.1 hr with rfl | hr
        · exact .inr ⟨[], by simp, fun _ _ _ _ => trivial⟩
        · rcases hRS r hr with h | ⟨rd, hm, himp⟩
          · exact .inl h
          · exact .inr ⟨rd, List.mem_cons_of_mem _ hm, himp⟩
  | .alt x y, R, RS, listed, rel, fuel, s, a, w, ρ, hl, hp, hcl, hRS, hS, hA, hF, hd => by
    simp only [planOk, Bool.and_eq_true] at hp
    simp only [sxPl2] at hS
    simp only [PT.len] at hl
    obtain ⟨⟨⟨hne, hall⟩, hpx⟩, hpy⟩ := hp
    have hx := altOk_len ops x listed rel hpx
    cases fuel with
    | zero => omega
    | succ fuel =>
      refine ⟨fun h0 => ?_, fun j hj => ?_⟩
      · rw [h0] at hne; simp at hne
      · have hm := List.all_eq_true.1 hall j hj
        simp only [List.contains_iff_mem, List.mem_append] at hm
        rcases hm with hm | hm
        · exact alt_ok hsel hQ hK x R RS listed rel fuel (by omega) hpx hcl j hm hj hRS hS.1 hA hF hd
        · exact alt_ok hsel hQ hK y R RS listed rel fuel (by omega) hpy hcl j hm hj hRS hS.2 hA hF hd
theorem alt_ok {P : Program} {ops : Array Oper} {Q : Exit → Act → World → Prop} (hsel : ∀ (j : Nat) (o : Oper) cs b, ops[j]? = some o → o.op ≠ .select cs b)
    (hQ : ∀ c a d v w, Q (.panic c) (Act.put a d v) w → Q (.panic c) a w) {K : St → Prop}
    (hK : ∀ s', K s' → ∀ ρ' a' w', Ag E ρ' s'.H s'.G w' → Rvs ρ' s'.fr a'.tmps.toList → a'.defers = [] → Q .normal a' w') :
    ∀ (q : PT) (R : Plan) (RS : Rl) (listed : Array Bool) (rel : List Nat) (fuel : Nat) {s : St} {a : Act} {w : World} {ρ : List Value}, q.len ≤ fuel + 1 →
    altOk ops q listed rel = true → Closed ops listed → ∀ i, i ∈ q.heads → i ∈ Region.ready .any ops listed → (∀ r ∈ RS, Conn ρ s.G R rel r) →
    sxPl2 P E ops.toList q R K s → Ag E ρ s.H s.G w → Rvs ρ s.fr a.tmps.toList → a.defers = [] →
    wpOp P ops Q i (fun a' w' => Pres ops RS i w w' ∧ wpAnyO P ops Q RS fuel (listed.setIfInBounds i true) a' w') a w
  | .nil, R, RS, listed, rel, fuel, s, a, w, ρ, hl, hp, hcl, j, hj, hr, hRS, hS, hA, hF, hd => by simp [altOk] at hp
  | .alt x y, R, RS, listed, rel, fuel, s, a, w, ρ, hl, hp, hcl, j, hj, hr, hRS, hS, hA, hF, hd => by
    simp only [altOk, Bool.and_eq_true] at hp
    simp only [sxPl2] at hS
    simp only [PT.len] at hl
    simp only [PT.heads, List.mem_append] at hj
    rcases hj with hj | hj
    · exact alt_ok hsel hQ hK x R RS listed rel fuel (by omega) hp.1 hcl j hj hr hRS hS.1 hA hF hd
    · exact alt_ok hsel hQ hK y R RS listed rel fuel (by omega) hp.2 hcl j hj hr hRS hS.2 hA hF hd
  | .cons i ks pl, R, RS, listed, rel, fuel, s, a, w, ρ, hl, hp, hcl, j, hj, hr, hRS, hS, hA, hF, hd => by
    simp only [PT.heads, List.mem_singleton] at hj
    have hj' := hj.symm
    subst hj'
    have hl' : pl.len ≤ fuel := by simpa [PT.len] using hl
    simp only [altOk] at hp
    split at hp
    case h_2 => simp at hp
    rename_i o ho
    simp only [sxPl2, nth_eq] at hS
    have ho' : ops.toList[i]? = some o := by simpa using ho
    rw [ho'] at hS
    simp only at hS
    obtain ⟨s1, h1, h2, h3, hw⟩ := guard_ok hS hF
    simp only [Array.toArray_toList] at hw
    rw [← h1, ← h2] at hA
    rw [← h2] at hRS
    have hd' : ∀ v, (a.put o.dst v).defers = [] := fun v => by cases o.dst <;> exact hd
    simp only [Bool.and_eq_true] at hp
    obtain ⟨⟨⟨he, hrel⟩, hks⟩, hp'⟩ := hp
    have hcl' := closed_set hcl (i := i) hr
    unfold wpOp
    simp only [ho]
    rcases hw with ⟨hw, hx⟩ | ⟨hw, hx⟩
    · rw [if_pos hw]
      refine .inl ?_
      rw [he] at hx
      refine eff_ok (ρ := ρ) (fun T sv s' hk ρ' v w' hA' hF' hrv hfp => ?_) hx hA h3
      split at hk
      case h_2 => exact hk.no.elim
      rename_i hc
      obtain ⟨s2, hk2, e1, e2, hF2⟩ := putS_ok hk hF' hrv
      obtain ⟨hpres, hRS'⟩ := pres_eff hA hfp hc hks hrel hRS
      refine ⟨hpres, sxPl2_ok hsel hQ hK pl (dropR R ks) RS _ ks fuel hl' hp' hcl' ?_ hk2 (by rw [e1, e2]; exact hA') hF2 (hd' v)⟩
      rw [e2]; exact hRS'
    · rw [if_neg (by simp [hw])]
      rw [he] at hx
      obtain ⟨s2, hk2, e1, e2, hF2⟩ := putS_ok hx h3 (v := undef) (by simp [Rv])
      obtain ⟨hpres, hRS'⟩ := pres_eff (i := i) (ops := ops) hA (Fp.refl []) (chkR_nil R ks) hks hrel hRS
      refine ⟨hpres, sxPl2_ok hsel hQ hK pl (dropR R ks) RS _ ks fuel hl' hp' hcl' ?_ hk2 (by rw [e1, e2]; exact hA) hF2 (hd' _)⟩
      rw [e2]; exact hRS'
end

theorem region_draw {P : Program} {id : Nat} {ops : Array Oper} {Q : Exit → Act → World → Prop} {pl : Plan2} (hm : P.follows .mixedOrders = true) (hp : drawOk ops pl = true)
    (hQ : ∀ c a d v w, Q (.panic c) (Act.put a d v) w → Q (.panic c) a w) {K : St → Prop}
    (hK : ∀ s', K s' → ∀ ρ' a' w', Ag E ρ' s'.H s'.G w' → Rvs ρ' s'.fr a'.tmps.toList → a'.defers = [] → Q .normal a' w') {s : St} {a : Act}
    (hS : sxPl2 P E ops.toList pl [] K s) (hA : Ag E ρ s.H s.G w) (hF : Rvs ρ s.fr a.tmps.toList) (hd : a.defers = []) : (Code.region id ops true).wp P Q a w := by
  simp only [drawOk, Bool.and_eq_true] at hp
  obtain ⟨⟨h1, h2⟩, h3⟩ := hp
  refine wp_region_any hm (wpAnyO_any (R := []) _ _ _ _ ?_)
  refine sxPl2_ok (Region.noSelect_spec h1) hQ hK pl [] [] _ [] ops.size (Nat.le_of_ble_eq_true h2) h3 ?_ (by simp) hS (hA.drawn _) hF hd
  intro j o ho hl
  have : (Array.replicate ops.size false).getD j false = false := by
    simp only [Array.getD_eq_getD_getElem?, Array.getElem?_replicate]
    split <;> rfl
  rw [this] at hl; cases hl
end
end Go.SX
