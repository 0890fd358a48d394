/- SXc: SX9, SX10, SX11, SX12, SX13, SX14 in one text. -/
import Derived.Test.YtglelcgllodhoaaSXb
import Derived.Below
namespace Go.SX
set_option linter.unusedVariables false
set_option linter.unusedSimpArgs false

def anc (ops : Array Oper) : Nat → Nat → Nat → Bool
  | 0, _, _ => false
  | n + 1, j, k => match ops[j]? with
    | some o => o.after.any fun e => Region.binds .any e && (e.on == k || anc ops n e.on k)
    | none => false

def Closed (ops : Array Oper) (listed : Array Bool) : Prop :=
  ∀ j o, ops[j]? = some o → listed.getD j false = true → ∀ e ∈ o.after, Region.binds .any e = true → listed.getD e.on false = true

theorem anc_listed {ops : Array Oper} {listed : Array Bool} (hc : Closed ops listed) : ∀ (n j k : Nat), (∀ o, ops[j]? = some o → ∀ e ∈ o.after, Region.binds .any e = true → listed.getD e.on false = true) →
    anc ops n j k = true → listed.getD k false = true
  | 0, j, k, _, h => by simp [anc] at h
  | n + 1, j, k, hj, h => by
    simp only [anc] at h
    split at h
    case h_2 => simp at h
    rename_i o ho
    obtain ⟨e, he, hb⟩ := Array.any_eq_true'.1 h
    simp only [Bool.and_eq_true, Bool.or_eq_true, beq_iff_eq] at hb
    have hl := hj o ho e he hb.1
    rcases hb.2 with h1 | h1
    · rw [← h1]; exact hl
    · exact anc_listed hc n e.on k (fun o' ho' => hc e.on o' ho' hl) h1

abbrev Rl := List (Nat × (World → Prop))
def Pres (ops : Array Oper) (R : Rl) (i : Nat) (w w' : World) : Prop := ∀ r ∈ R, anc ops ops.size i r.1 = false → r.2 w → r.2 w'

section
variable {P : Program} {ops : Array Oper} {Q : Exit → Act → World → Prop}

def wpAnyO (P : Program) (ops : Array Oper) (Q : Exit → Act → World → Prop) (R : Rl) : Nat → Array Bool → Act → World → Prop
  | 0, listed, a, w => Region.ready .any ops listed = [] ∧ Q .normal a w
  | fuel + 1, listed, a, w =>
    (Region.ready .any ops listed = [] → Q .normal a w) ∧
    ∀ i ∈ Region.ready .any ops listed, wpOp P ops Q i (fun a' w' => Pres ops R i w w' ∧ wpAnyO P ops Q R fuel (listed.setIfInBounds i true) a' w') a w

theorem wpAnyO_sub {R R' : Rl} (hR : ∀ r ∈ R', r ∈ R) : ∀ (fuel : Nat) (listed : Array Bool) (a : Act) (w : World), wpAnyO P ops Q R fuel listed a w → wpAnyO P ops Q R' fuel listed a w
  | 0, _, _, _, h => h
  | fuel + 1, listed, a, w, h => ⟨h.1, fun i hi => wpOp_mono (fun a' w' hh => ⟨fun r hr => hh.1 r (hR r hr), wpAnyO_sub hR fuel _ _ _ hh.2⟩) (h.2 i hi)⟩

theorem wpAnyO_any {R : Rl} : ∀ (fuel : Nat) (listed : Array Bool) (a : Act) (w : World), wpAnyO P ops Q R fuel listed a w → wpAny P .any ops Q fuel listed a w
  | 0, _, _, _, h => h
  | fuel + 1, listed, a, w, h => ⟨h.1, fun i hi => wpOp_mono (fun a' w' hh => wpAnyO_any fuel _ _ _ hh.2) (h.2 i hi)⟩

def Alike (ops : Array Oper) (oi : Oper) (a a' : Act) : Prop := execOp a'.eval oi = execOp a.eval oi ∧ Region.wanted oi (yielded ops a'.tmps) = Region.wanted oi (yielded ops a.tmps)

theorem wpOp_put' {j : Nat} {oi oj : Oper} {v : Value} (hj : ops[j]? = some oj) (hap : oi.apart ops oj = true)
    (hsi : ∀ cs b, oi.op ≠ .select cs b) (hsj : ∀ cs b, oj.op ≠ .select cs b)
    (hQ : ∀ c a w, Q (.panic c) (a.put oi.dst v) w → Q (.panic c) a w) {K : Act → World → Prop} {a : Act} {w : World}
    (h : wpOp P ops Q j K (a.put oi.dst v) w) :
    wpOp P ops Q j (fun a' w' => Alike ops oi a a' ∧ K (a'.put oi.dst v) w') a w := by
  obtain ⟨h1, h2, h3⟩ := Oper.apart_spec hap
  have keep : ∀ u, Alike ops oi a (a.put oj.dst u) := fun u => ⟨execOp_put oi hsi a oj.dst u h3, wanted_put oi a oj.dst u h3⟩
  have keepD : ∀ d u, Alike ops oi a (({ a with defers := d :: a.defers } : Act).put oj.dst u) := fun d u =>
    ⟨(execOp_put oi hsi { a with defers := d :: a.defers } oj.dst u h3), (wanted_put oi { a with defers := d :: a.defers } oj.dst u h3)⟩
  unfold wpOp at *
  simp only [hj] at *
  rw [wanted_put oj a oi.dst v h1] at h
  split
  · rename_i hw
    simp only [hw, if_true] at h
    rcases h with h | ⟨hasks, hlets⟩
    case inr => exact .inr ⟨by unfold Oper.asks at *; rw [execOp_put oj hsj a oi.dst v h1] at hasks; exact hasks, hlets⟩
    refine .inl ?_
    unfold Oper.wp at *
    rw [execOp_put oj hsj a oi.dst v h1] at h
    generalize (execOp a.eval oj).run P w = r at *
    cases r with
    | ok n w' =>
      cases n <;> simp only [Oper.upon] at h ⊢
      case value u => exact ⟨keep u, by rw [← Act.put_comm a v u h2]; exact h⟩
      case skip => exact ⟨keep _, by rw [← Act.put_comm a v undef h2]; exact h⟩
      case defer d =>
        refine ⟨keepD d _, ?_⟩
        rw [← Act.put_comm _ v undef h2, ← Act.put_defers]
        exact h
      case enter f args =>
        refine Calls.mono h fun e w'' he => ?_
        cases e with
        | returned u => exact ⟨keep u, by rw [← Act.put_comm a v u h2]; exact he⟩
        | panicked c => exact hQ _ _ _ he
        | outgrown => exact he
      case row row args => exact Rows.mono h fun u w'' he => ⟨keep u, by rw [← Act.put_comm a v u h2]; exact he⟩
    | halt x w' =>
      cases x <;> simp only [Oper.upon] at h ⊢
      case panic u => exact hQ _ _ _ h
  · rename_i hw
    simp only [hw] at h
    exact ⟨keep _, by rw [← Act.put_comm a v undef h2]; exact h⟩

/-- What a quiet operation yields wherever I holds. -/
def YieldsI (P : Program) (ops : Array Oper) (o : Oper) (v : Value) (I : World → Prop) (a : Act) : Prop :=
  (Region.wanted o (yielded ops a.tmps) = true ∧ ∀ w, I w → (execOp a.eval o).run P w = .ok (.value v) w) ∨
  (Region.wanted o (yielded ops a.tmps) = false ∧ v = undef)
theorem YieldsI.alike {o : Oper} {v : Value} {I : World → Prop} {a a' : Act} (hy : YieldsI P ops o v I a) (h : Alike ops o a a') : YieldsI P ops o v I a' := by
  unfold YieldsI at *
  rw [h.1, h.2]
  exact hy
theorem YieldsI.wpOp {i : Nat} {o : Oper} {v : Value} {I : World → Prop} {a : Act} (hi : ops[i]? = some o) (hy : YieldsI P ops o v I a)
    {K : Act → World → Prop} {w : World} (hI : I w) (h : K (a.put o.dst v) w) : wpOp P ops Q i K a w := by
  unfold Go.wpOp
  simp only [hi]
  rcases hy with ⟨hw, hv⟩ | ⟨hw, rfl⟩
  · simp only [hw, if_true, Oper.wp, hv w hI, Oper.upon]; exact .inl h
  · simp only [hw, Bool.false_eq_true, if_false]; exact h

theorem closed_set {listed : Array Bool} (hc : Closed ops listed) {i : Nat} (hi : i ∈ Region.ready .any ops listed) : Closed ops (listed.setIfInBounds i true) := by
  intro j o ho hl e he hb
  by_cases hij : i = j
  · subst hij
    obtain ⟨_, o', ho', hall⟩ := mem_ready.1 hi
    rw [ho] at ho'; simp at ho'; subst ho'
    exact getD_set_true (hall e he hb)
  · rw [getD_set_ne false hij] at hl
    exact getD_set_true (hc j o ho hl e he hb)

theorem wpAnyO_take {i : Nat} {oi : Oper} {v : Value} {I : World → Prop} {R : Rl} (hi : ops[i]? = some oi) (hsel : ∀ (j : Nat) (o : Oper) cs b, ops[j]? = some o → o.op ≠ .select cs b)
    (hQ : ∀ c a w, Q (.panic c) (a.put oi.dst v) w → Q (.panic c) a w) :
    ∀ (fuel : Nat) (listed : Array Bool) (a : Act) (w : World), Closed ops listed →
      (∀ j oj, ops[j]? = some oj → j ≠ i → listed.getD j true = false → (∀ e ∈ oj.after, Region.binds .any e = true → e.on ≠ i) → oi.apart ops oj = true) →
      i ∈ Region.ready .any ops listed → YieldsI P ops oi v I a → I w →
      wpAnyO P ops Q ((i, I) :: R) fuel (listed.setIfInBounds i true) (a.put oi.dst v) w → wpAnyO P ops Q R (fuel + 1) listed a w := by
  intro fuel
  induction fuel with
  | zero =>
    intro listed a w hcl _ hr hy hIw H
    refine ⟨fun h => (by rw [h] at hr; cases hr), fun j hj => ?_⟩
    by_cases hji : j = i
    · subst hji; exact hy.wpOp hi hIw ⟨fun _ _ _ h => h, wpAnyO_sub (fun r hr => List.mem_cons_of_mem _ hr) 0 _ _ _ H⟩
    · have := ready_mono hj hji
      rw [H.1] at this
      cases this
  | succ fuel ih =>
    intro listed a w hcl hfree hr hy hIw H
    refine ⟨fun h => (by rw [h] at hr; cases hr), fun j hj => ?_⟩
    by_cases hji : j = i
    · subst hji; exact hy.wpOp hi hIw ⟨fun _ _ _ h => h, wpAnyO_sub (fun r hr => List.mem_cons_of_mem _ hr) _ _ _ _ H⟩
    · have h1 := H.2 j (ready_mono hj hji)
      obtain ⟨hjun, oj, hoj, hall⟩ := mem_ready.1 hj
      have hiun := (mem_ready.1 hr).1
      have hif : listed.getD i false = false := by
        rcases Nat.lt_or_ge i listed.size with h' | h'
        · simpa [h'] using hiun
        · simp [Array.getElem?_eq_none h']
      have hnot : ∀ e ∈ oj.after, Region.binds .any e = true → e.on ≠ i := fun e he hb heq => by
        have h1 := hall e he hb
        rw [heq, hif] at h1; cases h1
      have hanc : anc ops ops.size j i = false := by
        cases hh : anc ops ops.size j i with
        | false => rfl
        | true =>
          have := anc_listed hcl ops.size j i (fun o ho e he hb => by rw [hoj] at ho; simp at ho; subst ho; exact hall e he hb) hh
          rw [hif] at this; cases this
      have h2 := wpOp_put' hoj (hfree j oj hoj hji hjun hnot) (fun cs b => hsel i oi cs b hi) (fun cs b => hsel j oj cs b hoj) hQ h1
      have hfree' : ∀ k ok, ops[k]? = some ok → k ≠ i → (listed.setIfInBounds j true).getD k true = false →
          (∀ e ∈ ok.after, Region.binds .any e = true → e.on ≠ i) → oi.apart ops ok = true := fun k ok hk hki hun hno => by
        refine hfree k ok hk hki ?_ hno
        by_cases hjk : j = k
        · subst hjk; exact hjun
        · rw [getD_set_ne true hjk] at hun; exact hun
      refine wpOp_mono (fun a' w' h3 => ⟨fun r hr' => h3.2.1 r (List.mem_cons_of_mem _ hr'), ?_⟩) h2
      refine ih (listed.setIfInBounds j true) a' w' (closed_set hcl hj) hfree' (ready_mono hr (Ne.symm hji)) (hy.alike h3.1) (h3.2.1 (i, I) (by simp) hanc hIw) ?_
      rw [Array.setIfInBounds_comm _ _ hji]
      exact h3.2.2

theorem wpAnyO_only {i : Nat} {R : Rl} {fuel : Nat} {listed : Array Bool} {a : Act} {w : World} (hr : Region.ready .any ops listed = [i])
    (h : wpOp P ops Q i (fun a' w' => Pres ops R i w w' ∧ wpAnyO P ops Q R fuel (listed.setIfInBounds i true) a' w') a w) : wpAnyO P ops Q R (fuel + 1) listed a w :=
  ⟨fun h0 => (by rw [hr] at h0; cases h0), fun j hj => by rw [hr] at hj; simp at hj; subst hj; exact h⟩

theorem wpAnyO_done {R : Rl} {listed : Array Bool} {a : Act} {w : World} (hr : Region.ready .any ops listed = []) (h : Q .normal a w) : ∀ fuel, wpAnyO P ops Q R fuel listed a w
  | 0 => ⟨hr, h⟩
  | _ + 1 => ⟨fun _ => h, by rw [hr]; simp⟩
end
end Go.SX

namespace Go.SX
set_option linter.unusedVariables false
set_option linter.unusedSimpArgs false
section
variable {E : Env} {ρ : List Value} {H : List Ob} {G : Gh} {w : World}

abbrev Plan := List (Nat × List Nat)
/-- A plan: steps; where several effects are ready at once, two ways of going on. -/
inductive PT where
  | nil
  | cons (i : Nat) (ks : List Nat) (pl : PT)
  | alt (a b : PT)
abbrev Plan2 := PT
def PT.len : PT → Nat
  | .nil => 0
  | .cons _ _ pl => pl.len + 1
  | .alt a b => max a.len b.len
def PT.heads : PT → List Nat
  | .nil => []
  | .cons i _ _ => [i]
  | .alt a b => a.heads ++ b.heads
mutual
def planOk (ops : Array Oper) : PT → Array Bool → List Nat → Bool
  | .nil, listed, _ => (Region.ready .any ops listed).isEmpty
  | .cons i ks pl, listed, rel => match ops[i]? with
    | some o => if isEff o.op then Region.ready .any ops listed == [i] && rel.all ks.contains && ks.all (anc ops ops.size i) && planOk ops pl (listed.setIfInBounds i true) ks
      else (Region.ready .any ops listed).contains i && Region.free .any ops listed i && planOk ops pl (listed.setIfInBounds i true) rel
    | none => false
  | .alt a b, listed, rel => !(Region.ready .any ops listed).isEmpty && (Region.ready .any ops listed).all (a.heads ++ b.heads).contains && altOk ops a listed rel && altOk ops b listed rel
/-- The plan of an alternative: its first step is one of several effects. -/
def altOk (ops : Array Oper) : PT → Array Bool → List Nat → Bool
  | .nil, _, _ => false
  | .cons i ks pl, listed, rel => match ops[i]? with
    | some o => isEff o.op && rel.all ks.contains && ks.all (anc ops ops.size i) && planOk ops pl (listed.setIfInBounds i true) ks
    | none => false
  | .alt a b, listed, rel => altOk ops a listed rel && altOk ops b listed rel
end
def drawOk (ops : Array Oper) (pl : Plan2) : Bool := Region.noSelect ops && Nat.ble pl.len ops.size && planOk ops pl (Array.replicate ops.size false) []

def memN : Nat → List Nat → Bool
  | _, [] => false
  | k, x :: xs => match Nat.beq k x with
    | true => true
    | false => memN k xs
theorem memN_iff {k : Nat} : ∀ {l : List Nat}, memN k l = true ↔ k ∈ l
  | [] => by simp [memN]
  | x :: xs => by
    simp only [memN, List.mem_cons]
    split
    · rename_i h; simp [Nat.eq_of_beq_eq_true h]
    · rename_i h
      have : k ≠ x := fun e => by subst e; simp at h
      simp [this, memN_iff]
def disj : List Nat → List Nat → Bool
  | [], _ => true
  | x :: xs, T => match memN x T with
    | true => false
    | false => disj xs T
theorem disj_ok : ∀ {xs T : List Nat}, disj xs T = true → ∀ x ∈ xs, x ∉ T
  | [], T, _ => by simp
  | y :: ys, T, h => by
    simp only [disj] at h
    split at h
    · simp at h
    · rename_i hm
      intro x hx
      rcases List.mem_cons.1 hx with rfl | hx
      · intro hT; rw [memN_iff.2 hT] at hm; simp at hm
      · exact disj_ok h x hx
def chkR : Plan → List Nat → List Nat → Bool
  | [], _, _ => true
  | (k, rd) :: R, ks, T => match memN k ks with
    | true => chkR R ks T
    | false => match disj rd T with
      | true => chkR R ks T
      | false => false
theorem chkR_ok : ∀ {R : Plan} {ks T : List Nat}, chkR R ks T = true → ∀ k rd, (k, rd) ∈ R → k ∉ ks → ∀ x ∈ rd, x ∉ T
  | [], _, _, _ => by simp
  | (k0, rd0) :: R, ks, T, h => by
    simp only [chkR] at h
    intro k rd hm hk
    split at h
    · rename_i h0
      rcases List.mem_cons.1 hm with he | hm
      · simp at he; exact absurd (by rw [he.1]; exact memN_iff.1 h0) hk
      · exact chkR_ok h k rd hm hk
    · split at h
      · rename_i h1
        rcases List.mem_cons.1 hm with he | hm
        · simp at he; rw [he.2]; exact disj_ok h1
        · exact chkR_ok h k rd hm hk
      · simp at h
def dropR : Plan → List Nat → Plan
  | [], _ => []
  | (k, rd) :: R, ks => match memN k ks with
    | true => dropR R ks
    | false => (k, rd) :: dropR R ks
theorem dropR_ok : ∀ {R : Plan} {ks : List Nat} {k : Nat} {rd : List Nat}, (k, rd) ∈ R → k ∉ ks → (k, rd) ∈ dropR R ks
  | [], _, _, _, h, _ => by simp at h
  | (k0, rd0) :: R, ks, k, rd, h, hk => by
    simp only [dropR]
    rcases List.mem_cons.1 h with he | hm
    · simp at he
      split
      · rename_i h0; exact absurd (by rw [he.1]; exact memN_iff.1 h0) hk
      · simp [he]
    · split
      · exact dropR_ok hm hk
      · exact List.mem_cons_of_mem _ (dropR_ok hm hk)

def sxPl2 (P : Program) (E : Env) (all : List Oper) : PT → Plan → (St → Prop) → St → Prop
  | .nil, _, K, s => K s
  | .cons i ks pl, R, K, s => match nth all i with
    | some o => sxGuard all o s
      (fun s => match isEff o.op with
        | true => effOp P E o s fun T v s' => match chkR R ks T with
          | true => putS o.dst v s' (sxPl2 P E all pl (dropR R ks) K)
          | false => Bad o
        | false => quOp P o s fun v => putS o.dst v s (sxPl2 P E all pl ((i, rdOf s o) :: R) K))
      (fun s => match isEff o.op with
        | true => putS o.dst (.v undef) s (sxPl2 P E all pl (dropR R ks) K)
        | false => putS o.dst (.v undef) s (sxPl2 P E all pl ((i, []) :: R) K))
    | none => False
  | .alt a b, R, K, s => sxPl2 P E all a R K s ∧ sxPl2 P E all b R K s

def Conn (ρ : List Value) (G : Gh) (R : Plan) (rel : List Nat) (r : Nat × (World → Prop)) : Prop :=
  r.1 ∈ rel ∨ ∃ rd, (r.1, rd) ∈ R ∧ ∀ w1 w2 : World, (∀ b, ((∃ o, G b = some o) ∨ ∃ i ∈ rd, ∃ x, ρ[i]? = some x ∧ blkOf x = some b) → w2.heap[b]? = w1.heap[b]?) → r.2 w1 → r.2 w2

theorem pres_eff {ops : Array Oper} (hA : Ag E ρ H G w) {ρ' : List Value} {G' : Gh} {w' : World} {T ks rel : List Nat} {R : Plan} {RS : Rl} {i : Nat} (hfp : Fp ρ ρ' G G' T w w') (hc : chkR R ks T = true)
    (hks : ks.all (anc ops ops.size i) = true) (hrel : rel.all ks.contains = true) (hRS : ∀ r ∈ RS, Conn ρ G R rel r) :
    Pres ops RS i w w' ∧ ∀ r ∈ RS, Conn ρ' G' (dropR R ks) ks r := by
  have hanc : ∀ k ∈ ks, anc ops ops.size i k = true := fun k hk => List.all_eq_true.1 hks k hk
  have hin : ∀ k ∈ rel, k ∈ ks := fun k hk => by simpa using List.all_eq_true.1 hrel k hk
  constructor
  · intro r hr hno hI
    rcases hRS r hr with h | ⟨rd, hm, himp⟩
    · rw [hanc _ (hin _ h)] at hno; simp at hno
    · by_cases hk : r.1 ∈ ks
      · rw [hanc _ hk] at hno; simp at hno
      · have hd := chkR_ok hc _ _ hm hk
        refine himp w w' (fun b hb => ?_) hI
        rcases hb with ⟨o, ho⟩ | ⟨j, hj, x, hx, hxb⟩
        · have hlt : b < w.heap.size := by have := hA.ext b o ho; rw [Array.getElem?_eq_some_iff] at this; exact this.1
          refine hfp.blk b hlt fun q hq x hx hxb => ?_
          have := (hA.own q x b hx hxb).2.1
          rw [ho] at this; simp at this
        · refine hfp.blk b (hA.own j x b hx hxb).1 fun q hq y hy hyb => ?_
          have := hA.apart j q x y b hx hy hxb hyb
          subst this
          exact hd j hj hq
  · intro r hr
    rcases hRS r hr with h | ⟨rd, hm, himp⟩
    · exact .inl (hin _ h)
    · by_cases hk : r.1 ∈ ks
      · exact .inl hk
      · have hd := chkR_ok hc _ _ hm hk
        refine .inr ⟨rd, dropR_ok hm hk, fun w1 w2 hb hI => himp w1 w2 (fun b hb' => hb b ?_) hI⟩
        rcases hb' with ⟨o, ho⟩ | ⟨j, hj, x, hx, hxb⟩
        · exact .inl ⟨o, hfp.gh b o ho⟩
        · exact .inr ⟨j, hj, x, hfp.ids j x (hd j hj) hx, hxb⟩

theorem Fp.refl (T : List Nat) : Fp ρ ρ G G T w w := ⟨fun _ _ _ => rfl, fun _ _ _ h => h, fun _ _ h => h⟩

theorem chkR_nil : ∀ (R : Plan) (ks : List Nat), chkR R ks [] = true
  | [], _ => rfl
  | (k, rd) :: R, ks => by
    simp only [chkR]
    split
    · exact chkR_nil R ks
    · have : ∀ l : List Nat, disj l [] = true := by
        intro l
        induction l with
        | nil => rfl
        | cons x xs ih => simp [disj, memN, ih]
      rw [this]; exact chkR_nil R ks

theorem altOk_len (ops : Array Oper) : ∀ (q : PT) (listed : Array Bool) (rel : List Nat), altOk ops q listed rel = true → 0 < q.len
  | .nil, _, _, h => by simp [altOk] at h
  | .cons _ _ _, _, _, _ => by simp [PT.len]
  | .alt a b, listed, rel, h => by
    simp only [altOk, Bool.and_eq_true] at h
    have := altOk_len ops a listed rel h.1
    simp only [PT.len]; omega
mutual
theorem sxPl2_ok {P : Program} {ops : Array Oper} {Q : Exit → Act → World → Prop} (hsel : ∀ (j : Nat) (o : Oper) cs b, ops[j]? = some o → o.op ≠ .select cs b)
    (hQ : ∀ c a d v w, E.dOk d → Q (.panic c) (Act.put a d v) w → Q (.panic c) a w) {K : St → Prop} (hw0 : ∀ o ∈ ops, E.dOk o.dst)
    (hP : ∀ x H' G', E.Pan x H' G' → ∀ ρ' a' w', Ag E ρ' H' G' w' → E.Kp a' → Q (.panic [{ v := x, recovered := false }]) a' w')
    (hK : ∀ s', K s' → ∀ ρ' a' w', Ag E ρ' s'.H s'.G w' → Rvs ρ' s'.fr a'.tmps.toList → E.Kp a' → Q .normal a' w') :
    ∀ (pl : PT) (R : Plan) (RS : Rl) (listed : Array Bool) (rel : List Nat) (fuel : Nat) {s : St} {a : Act} {w : World} {ρ : List Value}, pl.len ≤ fuel →
    planOk ops pl listed rel = true → Closed ops listed → (∀ r ∈ RS, Conn ρ s.G R rel r) →
    sxPl2 P E ops.toList pl R K s → Ag E ρ s.H s.G w → Rvs ρ s.fr a.tmps.toList → E.Kp a → wpAnyO P ops Q RS fuel listed a w
  | .nil, R, RS, listed, rel, fuel, s, a, w, ρ, _, hp, _, _, hS, hA, hF, hd => by
    simp only [planOk, List.isEmpty_iff] at hp
    simp only [sxPl2] at hS
    exact wpAnyO_done hp (hK s hS ρ a w hA hF hd) fuel
  | .cons i ks pl, R, RS, listed, rel, 0, s, a, w, ρ, hl, hp, hcl, hRS, hS, hA, hF, hd => by simp [PT.len] at hl
  | .cons i ks pl, R, RS, listed, rel, fuel + 1, s, a, w, ρ, hl, hp, hcl, hRS, hS, hA, hF, hd => by
    have hl' : pl.len ≤ fuel := by simpa [PT.len] using hl
    simp only [planOk] at hp
    split at hp
    case h_2 => simp at hp
    rename_i o ho
    simp only [sxPl2, nth_eq] at hS
    have ho' : ops.toList[i]? = some o := by simpa using ho
    rw [ho'] at hS
    simp only at hS
    obtain ⟨s1, h1, h2, h3, hw⟩ := guard_ok hS hF
    simp only [Array.toArray_toList] at hw
    rw [← h1, ← h2] at hA
    rw [← h2] at hRS
    have hd' : ∀ v, E.Kp (a.put o.dst v) := fun v => hd.put (hw0 o (Array.mem_of_getElem? ho)) v
    by_cases he : isEff o.op = true
    · simp only [he, if_true, Bool.and_eq_true] at hp
      obtain ⟨⟨⟨hr, hrel⟩, hks⟩, hp'⟩ := hp
      have hr' : Region.ready .any ops listed = [i] := by simpa using hr
      have hcl' := closed_set hcl (i := i) (by rw [hr']; simp)
      refine wpAnyO_only hr' ?_
      unfold wpOp
      simp only [ho]
      rcases hw with ⟨hw, hx⟩ | ⟨hw, hx⟩
      · rw [if_pos hw]
        refine .inl ?_
        rw [he] at hx
        refine eff_ok (ρ := ρ) (fun T sv s' hk ρ' v w' hA' hF' hrv hfp => ?_) (fun x H' G' ρ' w' hp hA' => hP x H' G' hp ρ' a w' hA' hd) hx hA h3
        split at hk
        case h_2 => exact hk.no.elim
        rename_i hc
        obtain ⟨s2, hk2, e1, e2, hF2⟩ := putS_ok hk hF' hrv
        obtain ⟨hpres, hRS'⟩ := pres_eff hA hfp hc hks hrel hRS
        refine ⟨hpres, sxPl2_ok hsel hQ hw0 hP hK pl (dropR R ks) RS _ ks fuel hl' hp' hcl' ?_ hk2 (by rw [e1, e2]; exact hA') hF2 (hd' v)⟩
        rw [e2]; exact hRS'
      · rw [if_neg (by simp [hw])]
        rw [he] at hx
        obtain ⟨s2, hk2, e1, e2, hF2⟩ := putS_ok hx h3 (v := undef) (by simp [Rv])
        obtain ⟨hpres, hRS'⟩ := pres_eff (i := i) (ops := ops) hA (Fp.refl []) (chkR_nil R ks) hks hrel hRS
        refine ⟨hpres, sxPl2_ok hsel hQ hw0 hP hK pl (dropR R ks) RS _ ks fuel hl' hp' hcl' ?_ hk2 (by rw [e1, e2]; exact hA) hF2 (hd' _)⟩
        rw [e2]; exact hRS'
    · have he' : isEff o.op = false := by simpa using he
      simp only [he', Bool.false_eq_true, if_false, Bool.and_eq_true] at hp
      obtain ⟨⟨hr, hfree⟩, hp'⟩ := hp
      have hr' : i ∈ Region.ready .any ops listed := by simpa using hr
      have hcl' := closed_set hcl hr'
      have take : ∀ (v : Value) (I : World → Prop), YieldsI P ops o v I a → I w → wpAnyO P ops Q ((i, I) :: RS) fuel (listed.setIfInBounds i true) (a.put o.dst v) w → wpAnyO P ops Q RS (fuel + 1) listed a w :=
        fun v I hy hI h => wpAnyO_take ho hsel (fun c a w => hQ c a _ _ w (hw0 o (Array.mem_of_getElem? ho))) fuel listed a w hcl (Region.free_spec ho hfree) hr' hy hI h
      rcases hw with ⟨hw, hx⟩ | ⟨hw, hx⟩
      · rw [he'] at hx
        obtain ⟨v, sv, hk, hrv, hrun⟩ := qu_ok _ a ρ w hx hA h3
        obtain ⟨s2, hk2, e1, e2, hF2⟩ := putS_ok hk h3 hrv
        refine take v (fun w' => Agr s1.G ρ (rdOf s1 o) w w') (.inl ⟨hw, hrun⟩) (Agr.refl _ _ _ _) ?_
        refine sxPl2_ok hsel hQ hw0 hP hK pl ((i, rdOf s1 o) :: R) _ _ rel fuel hl' hp' hcl' ?_ hk2 (by rw [e1, e2]; exact hA) hF2 (hd' v)
        intro r hr
        rw [e2]
        rcases List.mem_cons.1 hr with rfl | hr
        · refine .inr ⟨rdOf s1 o, by simp, fun w1 w2 hb hI => ?_⟩
          exact ⟨fun b o' hg => by rw [hb b (.inl ⟨o', hg⟩)]; exact hI.1 b o' hg, fun j hj x b hx hxb => by rw [hb b (.inr ⟨j, hj, x, hx, hxb⟩)]; exact hI.2 j hj x b hx hxb⟩
        · rcases hRS r hr with h | ⟨rd, hm, himp⟩
          · exact .inl h
          · exact .inr ⟨rd, List.mem_cons_of_mem _ hm, himp⟩
      · rw [he'] at hx
        obtain ⟨s2, hk2, e1, e2, hF2⟩ := putS_ok hx h3 (v := undef) (by simp [Rv])
        refine take undef (fun _ => True) (.inr ⟨hw, rfl⟩) trivial ?_
        refine sxPl2_ok hsel hQ hw0 hP hK pl ((i, []) :: R) _ _ rel fuel hl' hp' hcl' ?_ hk2 (by rw [e1, e2]; exact hA) hF2 (hd' _)
        intro r hr
        rw [e2]
        rcases List.mem_cons.1 hr with rfl | hr
        · exact .inr ⟨[], by simp, fun _ _ _ _ => trivial⟩
        · rcases hRS r hr with h | ⟨rd, hm, himp⟩
          · exact .inl h
          · exact .inr ⟨rd, List.mem_cons_of_mem _ hm, himp⟩
  | .alt x y, R, RS, listed, rel, fuel, s, a, w, ρ, hl, hp, hcl, hRS, hS, hA, hF, hd => by
    simp only [planOk, Bool.and_eq_true] at hp
    simp only [sxPl2] at hS
    simp only [PT.len] at hl
    obtain ⟨⟨⟨hne, hall⟩, hpx⟩, hpy⟩ := hp
    have hx := altOk_len ops x listed rel hpx
    cases fuel with
    | zero => omega
    | succ fuel =>
      refine ⟨fun h0 => ?_, fun j hj => ?_⟩
      · rw [h0] at hne; simp at hne
      · have hm := List.all_eq_true.1 hall j hj
        simp only [List.contains_iff_mem, List.mem_append] at hm
        rcases hm with hm | hm
        · exact alt_ok hsel hQ hw0 hP hK x R RS listed rel fuel (by omega) hpx hcl j hm hj hRS hS.1 hA hF hd
        · exact alt_ok hsel hQ hw0 hP hK y R RS listed rel fuel (by omega) hpy hcl j hm hj hRS hS.2 hA hF hd
theorem alt_ok {P : Program} {ops : Array Oper} {Q : Exit → Act → World → Prop} (hsel : ∀ (j : Nat) (o : Oper) cs b, ops[j]? = some o → o.op ≠ .select cs b)
    (hQ : ∀ c a d v w, E.dOk d → Q (.panic c) (Act.put a d v) w → Q (.panic c) a w) {K : St → Prop} (hw0 : ∀ o ∈ ops, E.dOk o.dst)
    (hP : ∀ x H' G', E.Pan x H' G' → ∀ ρ' a' w', Ag E ρ' H' G' w' → E.Kp a' → Q (.panic [{ v := x, recovered := false }]) a' w')
    (hK : ∀ s', K s' → ∀ ρ' a' w', Ag E ρ' s'.H s'.G w' → Rvs ρ' s'.fr a'.tmps.toList → E.Kp a' → Q .normal a' w') :
    ∀ (q : PT) (R : Plan) (RS : Rl) (listed : Array Bool) (rel : List Nat) (fuel : Nat) {s : St} {a : Act} {w : World} {ρ : List Value}, q.len ≤ fuel + 1 →
    altOk ops q listed rel = true → Closed ops listed → ∀ i, i ∈ q.heads → i ∈ Region.ready .any ops listed → (∀ r ∈ RS, Conn ρ s.G R rel r) →
    sxPl2 P E ops.toList q R K s → Ag E ρ s.H s.G w → Rvs ρ s.fr a.tmps.toList → E.Kp a →
    wpOp P ops Q i (fun a' w' => Pres ops RS i w w' ∧ wpAnyO P ops Q RS fuel (listed.setIfInBounds i true) a' w') a w
  | .nil, R, RS, listed, rel, fuel, s, a, w, ρ, hl, hp, hcl, j, hj, hr, hRS, hS, hA, hF, hd => by simp [altOk] at hp
  | .alt x y, R, RS, listed, rel, fuel, s, a, w, ρ, hl, hp, hcl, j, hj, hr, hRS, hS, hA, hF, hd => by
    simp only [altOk, Bool.and_eq_true] at hp
    simp only [sxPl2] at hS
    simp only [PT.len] at hl
    simp only [PT.heads, List.mem_append] at hj
    rcases hj with hj | hj
    · exact alt_ok hsel hQ hw0 hP hK x R RS listed rel fuel (by omega) hp.1 hcl j hj hr hRS hS.1 hA hF hd
    · exact alt_ok hsel hQ hw0 hP hK y R RS listed rel fuel (by omega) hp.2 hcl j hj hr hRS hS.2 hA hF hd
  | .cons i ks pl, R, RS, listed, rel, fuel, s, a, w, ρ, hl, hp, hcl, j, hj, hr, hRS, hS, hA, hF, hd => by
    simp only [PT.heads, List.mem_singleton] at hj
    have hj' := hj.symm
    subst hj'
    have hl' : pl.len ≤ fuel := by simpa [PT.len] using hl
    simp only [altOk] at hp
    split at hp
    case h_2 => simp at hp
    rename_i o ho
    simp only [sxPl2, nth_eq] at hS
    have ho' : ops.toList[i]? = some o := by simpa using ho
    rw [ho'] at hS
    simp only at hS
    obtain ⟨s1, h1, h2, h3, hw⟩ := guard_ok hS hF
    simp only [Array.toArray_toList] at hw
    rw [← h1, ← h2] at hA
    rw [← h2] at hRS
    have hd' : ∀ v, E.Kp (a.put o.dst v) := fun v => hd.put (hw0 o (Array.mem_of_getElem? ho)) v
    simp only [Bool.and_eq_true] at hp
    obtain ⟨⟨⟨he, hrel⟩, hks⟩, hp'⟩ := hp
    have hcl' := closed_set hcl (i := i) hr
    unfold wpOp
    simp only [ho]
    rcases hw with ⟨hw, hx⟩ | ⟨hw, hx⟩
    · rw [if_pos hw]
      refine .inl ?_
      rw [he] at hx
      refine eff_ok (ρ := ρ) (fun T sv s' hk ρ' v w' hA' hF' hrv hfp => ?_) (fun x H' G' ρ' w' hp hA' => hP x H' G' hp ρ' a w' hA' hd) hx hA h3
      split at hk
      case h_2 => exact hk.no.elim
      rename_i hc
      obtain ⟨s2, hk2, e1, e2, hF2⟩ := putS_ok hk hF' hrv
      obtain ⟨hpres, hRS'⟩ := pres_eff hA hfp hc hks hrel hRS
      refine ⟨hpres, sxPl2_ok hsel hQ hw0 hP hK pl (dropR R ks) RS _ ks fuel hl' hp' hcl' ?_ hk2 (by rw [e1, e2]; exact hA') hF2 (hd' v)⟩
      rw [e2]; exact hRS'
    · rw [if_neg (by simp [hw])]
      rw [he] at hx
      obtain ⟨s2, hk2, e1, e2, hF2⟩ := putS_ok hx h3 (v := undef) (by simp [Rv])
      obtain ⟨hpres, hRS'⟩ := pres_eff (i := i) (ops := ops) hA (Fp.refl []) (chkR_nil R ks) hks hrel hRS
      refine ⟨hpres, sxPl2_ok hsel hQ hw0 hP hK pl (dropR R ks) RS _ ks fuel hl' hp' hcl' ?_ hk2 (by rw [e1, e2]; exact hA) hF2 (hd' _)⟩
      rw [e2]; exact hRS'
end

theorem region_draw {P : Program} {id : Nat} {ops : Array Oper} {Q : Exit → Act → World → Prop} {pl : Plan2} (hm : P.follows .mixedOrders = true) (hp : drawOk ops pl = true)
    (hQ : ∀ c a d v w, E.dOk d → Q (.panic c) (Act.put a d v) w → Q (.panic c) a w) {K : St → Prop} (hw0 : ∀ o ∈ ops, E.dOk o.dst)
    (hP : ∀ x H' G', E.Pan x H' G' → ∀ ρ' a' w', Ag E ρ' H' G' w' → E.Kp a' → Q (.panic [{ v := x, recovered := false }]) a' w')
    (hK : ∀ s', K s' → ∀ ρ' a' w', Ag E ρ' s'.H s'.G w' → Rvs ρ' s'.fr a'.tmps.toList → E.Kp a' → Q .normal a' w') {s : St} {a : Act}
    (hS : sxPl2 P E ops.toList pl [] K s) (hA : Ag E ρ s.H s.G w) (hF : Rvs ρ s.fr a.tmps.toList) (hd : E.Kp a) : (Code.region id ops true).wp P Q a w := by
  simp only [drawOk, Bool.and_eq_true] at hp
  obtain ⟨⟨h1, h2⟩, h3⟩ := hp
  refine wp_region_any hm (wpAnyO_any (R := []) _ _ _ _ ?_)
  refine sxPl2_ok (Region.noSelect_spec h1) hQ hw0 hP hK pl [] [] _ [] ops.size (Nat.le_of_ble_eq_true h2) h3 ?_ (by simp) hS (hA.drawn _) hF hd
  intro j o ho hl
  have : (Array.replicate ops.size false).getD j false = false := by
    simp only [Array.getD_eq_getD_getElem?, Array.getElem?_replicate]
    split <;> rfl
  rw [this] at hl; cases hl
end
end Go.SX

namespace Go.SX
set_option linter.unusedVariables false
set_option linter.unusedSimpArgs false
section
variable {E : Env} {ρ : List Value} {H : List Ob} {G : Gh} {w : World}

inductive Ex where
  | normal
  | ret
  | exit (id : Nat)
def Ex.up : Ex → Exit
  | .normal => .normal
  | .ret => .ret
  | .exit id => .exit id

abbrev Kont := Ex → St → Prop
/-- What follows. -/
structure KOK (E : Env) (K : Kont) (Q : Exit → Act → World → Prop) : Prop where
  go : ∀ e s, K e s → ∀ ρ a w, Ag E ρ s.H s.G w → Rvs ρ s.fr a.tmps.toList → E.Kp a → Q e.up a w
  pan : ∀ c a d v w, E.dOk d → Q (.panic c) (Act.put a d v) w → Q (.panic c) a w
  pan0 : ∀ x H' G', E.Pan x H' G' → ∀ ρ' a' w', Ag E ρ' H' G' w' → E.Kp a' → Q (.panic [{ v := x, recovered := false }]) a' w'

/-- A loop that the walk has come to. -/
structure LoopVC (P : Program) (E : Env) (body : Code) (s : St) (K : Kont) : Prop where
  out : ∀ Q, E.W = [] → KOK E K Q → ∀ ρ a w, Ag E ρ s.H s.G w → Rvs ρ s.fr a.tmps.toList → E.Kp a → (Code.loop body).wp P Q a w
structure BadC (c : Code) : Prop where
  no : False
structure NoPlan (id : Nat) : Prop where
  no : False
/-- The plan of a region whose order is drawn. -/
structure DrawVC (ops : Array Oper) (pl : Plan2) (A : Prop) : Prop where
  ok : drawOk ops pl = true
  nxt : A
theorem drw {ops : Array Oper} {pl : Plan2} {A : Prop} (h : drawOk ops pl = true) (ha : A) : DrawVC ops pl A := ⟨h, ha⟩

def planOf : List (Nat × Plan2) → Nat → Option Plan2
  | [], _ => none
  | (k, pl) :: l, id => match Nat.beq k id with
    | true => some pl
    | false => planOf l id

def litAt (c : Operand) (b : Bool) (s : St) (k : St → Prop) : Prop :=
  match c with
  | .tmp t => s.un fun fr H G => forceSp (fr.set t (.lit b)) fun fr' => k ⟨fr', H, G⟩
  | _ => k s

def sxC (P : Program) (E : Env) (Pl : List (Nat × Plan2)) : Code → Kont → St → Prop
  | .skip, K, s => K .normal s
  | .label _, K, s => K .normal s
  | .ret, K, s => K .ret s
  | .exit id, K, s => K (.exit id) s
  | .region id ops draw, K, s => match draw with
    | false => sxOps P E ops.toList ops.toList (K .normal) s
    | true => match planOf Pl id with
      | some pl => DrawVC ops pl (sxPl2 P E ops.toList pl [] (K .normal) s)
      | none => NoPlan id
  | .seq a b, K, s => sxC P E Pl a (fun e s => match e with
      | .normal => sxC P E Pl b K s
      | .ret => K .ret s
      | .exit i => K (.exit i) s) s
  | .cond c x y, K, s => match evr s.fr c with
    | .lit true => sxC P E Pl x K s
    | .lit false => sxC P E Pl y K s
    | .v (.bool b) => br b (litAt c true s (sxC P E Pl x K)) (litAt c false s (sxC P E Pl y K))
    | _ => BadC (.cond c x y)
  | .block id body, K, s => sxC P E Pl body (fun e s => match e with
      | .normal => K .normal s
      | .ret => K .ret s
      | .exit j => match Nat.beq j id with
        | true => K .normal s
        | false => K (.exit j) s) s
  | .loop body, K, s => LoopVC P E body s K
  | .rangeFunc f a b c, K, s => BadC (.rangeFunc f a b c)
  | .scope c, K, s => BadC (.scope c)
  | .goto l, K, s => BadC (.goto l)
  | .refuse m, K, s => BadC (.refuse m)

theorem lit_ok {c : Operand} {b : Bool} {s : St} {k : St → Prop} (h : litAt c b s k) {a : Act} (hF : Rvs ρ s.fr a.tmps.toList) (hc : a.eval c = .bool b) :
    ∃ s', k s' ∧ s'.H = s.H ∧ s'.G = s.G ∧ Rvs ρ s'.fr a.tmps.toList := by
  unfold litAt at h
  cases c with
  | tmp t =>
    simp only [St.un_eq, forceSp_eq] at h
    by_cases ht : t < a.tmps.size
    · refine ⟨_, h, rfl, rfl, set_lit hF ?_⟩
      simp only [Act.eval, Array.getD_eq_getD_getElem?, Array.getElem?_eq_getElem ht, Option.getD_some] at hc
      rw [Array.getElem?_toList, Array.getElem?_eq_getElem ht, hc]
    · simp [Act.eval, Array.getD_eq_getD_getElem?, Array.getElem?_eq_none (Nat.not_lt.1 ht), undef] at hc
  | const v => exact ⟨s, h, rfl, rfl, hF⟩
  | global g => exact ⟨s, h, rfl, rfl, hF⟩
  | func f => exact ⟨s, h, rfl, rfl, hF⟩

/-- No operation of the code writes into a slot that is kept. -/
def okW (E : Env) : Code → Prop
  | .region _ ops _ => ∀ o ∈ ops, E.dOk o.dst
  | .seq a b => okW E a ∧ okW E b
  | .cond _ x y => okW E x ∧ okW E y
  | .block _ b => okW E b
  | .loop _ => E.W = []
  | _ => True
theorem okW_nil (h : E.W = []) : ∀ c, okW E c
  | .region _ ops _ => fun o _ => Env.dOk_nil h _
  | .seq a b => ⟨okW_nil h a, okW_nil h b⟩
  | .cond _ x y => ⟨okW_nil h x, okW_nil h y⟩
  | .block _ b => okW_nil h b
  | .loop _ => h
  | .skip => trivial
  | .label _ => trivial
  | .ret => trivial
  | .exit _ => trivial
  | .rangeFunc _ _ _ _ => trivial
  | .scope _ => trivial
  | .goto _ => trivial
  | .refuse _ => trivial
theorem sxC_ok {P : Program} (hm : P.follows .mixedOrders = true) (Pl : List (Nat × Plan2)) : ∀ (c : Code) {K : Kont} {Q : Exit → Act → World → Prop} {s : St} {a : Act} {w : World} {ρ : List Value}, KOK E K Q →
    sxC P E Pl c K s → Ag E ρ s.H s.G w → Rvs ρ s.fr a.tmps.toList → E.Kp a → okW E c → c.wp P Q a w
  | .skip, K, Q, s, a, w, ρ, hK, hS, hA, hF, hd, hwk => wp_skip (hK.go .normal s hS ρ a w hA hF hd)
  | .label _, K, Q, s, a, w, ρ, hK, hS, hA, hF, hd, hwk => wp_label (hK.go .normal s hS ρ a w hA hF hd)
  | .ret, K, Q, s, a, w, ρ, hK, hS, hA, hF, hd, hwk => wp_ret (hK.go .ret s hS ρ a w hA hF hd)
  | .exit id, K, Q, s, a, w, ρ, hK, hS, hA, hF, hd, hwk => wp_exit (hK.go (.exit id) s hS ρ a w hA hF hd)
  | .region id ops draw, K, Q, s, a, w, ρ, hK, hS, hA, hF, hd, hwk => by
    simp only [sxC] at hS
    have hn : ∀ s', K .normal s' → ∀ ρ' a' w', Ag E ρ' s'.H s'.G w' → Rvs ρ' s'.fr a'.tmps.toList → E.Kp a' → Q .normal a' w' :=
      fun s' hs ρ' a' w' => hK.go .normal s' hs ρ' a' w'
    cases draw with
    | false =>
      refine wp_region_list ?_
      have := sxOps_ok (P := P) (all := ops.toList) (Q := Q) ops.toList hn hK.pan0 hS hA hF hd (fun o ho => hwk o (by simpa using ho))
      simpa using this
    | true =>
      simp only at hS
      split at hS
      · rename_i pl hpl
        exact region_draw hm hS.ok hK.pan hwk hK.pan0 hn hS.nxt hA hF hd
      · exact hS.no.elim
  | .seq x y, K, Q, s, a, w, ρ, hK, hS, hA, hF, hd, hwk => by
    simp only [sxC] at hS
    refine wp_seq (sxC_ok hm Pl x ⟨?_, ?_, hK.pan0⟩ hS hA hF hd hwk.1)
    · intro e s' hs ρ' a' w' hA' hF' hd'
      cases e with
      | normal => exact sxC_ok hm Pl y hK hs hA' hF' hd' hwk.2
      | ret => exact hK.go .ret s' hs ρ' a' w' hA' hF' hd'
      | exit i => exact hK.go (.exit i) s' hs ρ' a' w' hA' hF' hd'
    · exact hK.pan
  | .cond c x y, K, Q, s, a, w, ρ, hK, hS, hA, hF, hd, hwk => by
    simp only [sxC] at hS
    have hc := evr_ok hF c
    split at hS
    · rename_i he; rw [he] at hc; simp only [Rv] at hc; exact wp_cond_true hc (sxC_ok hm Pl x hK hS hA hF hd hwk.1)
    · rename_i he; rw [he] at hc; simp only [Rv] at hc; exact wp_cond_false hc (sxC_ok hm Pl y hK hS hA hF hd hwk.2)
    · rename_i b he
      rw [he] at hc
      simp only [Rv] at hc
      have hb := br_ok hS
      cases b
      · simp only [Bool.false_eq_true, if_false] at hb
        obtain ⟨s', hk, e1, e2, hF'⟩ := lit_ok hb hF hc
        exact wp_cond_false hc (sxC_ok hm Pl y hK hk (by rw [e1, e2]; exact hA) hF' hd hwk.2)
      · simp only [if_true] at hb
        obtain ⟨s', hk, e1, e2, hF'⟩ := lit_ok hb hF hc
        exact wp_cond_true hc (sxC_ok hm Pl x hK hk (by rw [e1, e2]; exact hA) hF' hd hwk.1)
    · exact hS.no.elim
  | .block id body, K, Q, s, a, w, ρ, hK, hS, hA, hF, hd, hwk => by
    simp only [sxC] at hS
    refine wp_block (sxC_ok hm Pl body ⟨?_, ?_, hK.pan0⟩ hS hA hF hd hwk)
    · intro e s' hs ρ' a' w' hA' hF' hd'
      cases e with
      | normal => exact hK.go .normal s' hs ρ' a' w' hA' hF' hd'
      | ret => exact hK.go .ret s' hs ρ' a' w' hA' hF' hd'
      | exit j =>
        simp only [Ex.up, Exit.inBlock]
        simp only at hs
        split at hs
        · rename_i hj
          rw [if_pos (Nat.eq_of_beq_eq_true hj)]
          exact hK.go .normal s' hs ρ' a' w' hA' hF' hd'
        · rename_i hj
          rw [if_neg (fun e => by subst e; simp at hj)]
          exact hK.go (.exit j) s' hs ρ' a' w' hA' hF' hd'
    · exact hK.pan
  | .loop body, K, Q, s, a, w, ρ, hK, hS, hA, hF, hd, hwk => hS.out Q hwk hK ρ a w hA hF hd
  | .rangeFunc _ _ _ _, K, Q, s, a, w, ρ, hK, hS, hA, hF, hd, hwk => hS.no.elim
  | .scope _, K, Q, s, a, w, ρ, hK, hS, hA, hF, hd, hwk => hS.no.elim
  | .goto _, K, Q, s, a, w, ρ, hK, hS, hA, hF, hd, hwk => hS.no.elim
  | .refuse _, K, Q, s, a, w, ρ, hK, hS, hA, hF, hd, hwk => hS.no.elim

/-! ### loops -/
theorem wp_loopx {P : Program} {α : Type} {c : Code} {Q : Exit → Act → World → Prop} (I : α → Act → World → Prop) (μ : α → Nat)
    (round : ∀ x a w, I x a w → c.wp P (Exit.then (fun a' w' => ∃ y, I y a' w' ∧ μ y < μ x) Q) a w) {x0 : α} {a : Act} {w : World} (h0 : I x0 a w) : (Code.loop c).wp P Q a w := by
  intro b k cs
  have key : ∀ n x a w, μ x = n → I x a w →
      ∃ e a' w', Q e a' w' ∧ Arrives P (lone (b.at a (.code c :: .inLoop c :: k)) cs w) b k cs e a' w' := by
    intro n
    induction n using Nat.strongRecOn with
    | _ n ih =>
      intro x a w hn hI
      obtain ⟨e, a₁, w₁, hq, harr⟩ := round x a w hI b (.inLoop c :: k) cs
      cases e with
      | normal =>
        obtain ⟨y, hI₁, hlt⟩ := hq
        obtain ⟨e₂, a₂, w₂, hq₂, harr₂⟩ := ih (μ y) (hn ▸ hlt) y a₁ w₁ rfl hI₁
        exact ⟨e₂, a₂, w₂, hq₂, .of_steps (Steps.trans harr (.one step_inLoop)) harr₂⟩
      | exit id => exact ⟨_, a₁, w₁, hq, .pass (x := .inLoop c) rfl (fun _ _ => .inl (by simp)) harr⟩
      | goto l => exact ⟨_, a₁, w₁, hq, .pass (x := .inLoop c) rfl (fun _ _ => .inl (by simp)) harr⟩
      | ret => exact ⟨_, a₁, w₁, hq, .pass (x := .inLoop c) rfl (fun _ _ => .inl (by simp)) harr⟩
      | panic ch => exact ⟨_, a₁, w₁, hq, .pass (x := .inLoop c) rfl (fun _ _ => .inl (by simp)) harr⟩
      | outgrown => exact ⟨_, a₁, w₁, hq, .pass (x := .inLoop c) rfl (fun _ _ => .inl (by simp)) harr⟩
  obtain ⟨e, a', w', hq, harr⟩ := key _ x0 a w rfl h0
  exact ⟨e, a', w', hq, .of_steps (.one step_loop) harr⟩

/-- Less is known. -/
def wk : List SV → List SV → Prop
  | [], [] => True
  | a :: l, b :: l' => (b = .dead ∨ a = b) ∧ wk l l'
  | _, _ => False
theorem wk_ok : ∀ {xs ys : List SV} {vs : List Value}, wk xs ys → Rvs ρ xs vs → Rvs ρ ys vs
  | [], [], vs, _, h => h
  | a :: l, b :: l', vs, hw, h => by
    simp only [Rvs] at h ⊢
    obtain ⟨y, yt, rfl, h1, h2⟩ := h
    refine ⟨y, yt, rfl, ?_, wk_ok hw.2 h2⟩
    rcases hw.1 with rfl | rfl
    · simp [Rv]
    · exact h1
  | [], _ :: _, _, hw, _ => hw.elim
  | _ :: _, [], _, hw, _ => hw.elim

theorem loop_rule {P : Program} (hm : P.follows .mixedOrders = true) (Pl : List (Nat × Plan2)) {α : Type} {body : Code} {K : Kont} {s : St} (Inv : α → St → Prop) (μ : α → Nat)
    (h0 : ∃ x s1, Inv x s1 ∧ s1.H = s.H ∧ s1.G = s.G ∧ wk s.fr s1.fr)
    (step : ∀ x s, Inv x s → sxC P E Pl body (fun e s' => match e with
      | .normal => ∃ y s1, Inv y s1 ∧ μ y < μ x ∧ s1.H = s'.H ∧ s1.G = s'.G ∧ wk s'.fr s1.fr
      | .ret => K .ret s'
      | .exit i => K (.exit i) s') s) : LoopVC P E body s K := by
  refine ⟨fun Q hW0 hK ρ a w hA hF hd => ?_⟩
  obtain ⟨x0, s1, hI, e1, e2, hw⟩ := h0
  refine wp_loopx (fun x a w => ∃ s ρ, Inv x s ∧ Ag E ρ s.H s.G w ∧ Rvs ρ s.fr a.tmps.toList ∧ E.Kp a) μ ?_ (x0 := x0) ⟨s1, ρ, hI, by rw [e1, e2]; exact hA, wk_ok hw hF, hd⟩
  rintro x a w ⟨s, ρ, hI, hA, hF, hd⟩
  refine sxC_ok hm Pl body ⟨?_, ?_, hK.pan0⟩ (step x s hI) hA hF hd (okW_nil hW0 body)
  · intro e s' hs ρ' a' w' hA' hF' hd'
    cases e with
    | normal =>
      obtain ⟨y, s1, hy, hlt, e1, e2, hw⟩ := hs
      exact ⟨y, ⟨s1, ρ', hy, by rw [e1, e2]; exact hA', wk_ok hw hF', hd'⟩, hlt⟩
    | ret => exact hK.go .ret s' hs ρ' a' w' hA' hF' hd'
    | exit i => exact hK.go (.exit i) s' hs ρ' a' w' hA' hF' hd'
  · exact hK.pan

/-! ### a function -/
def sxRes (P : Program) : List ResultVar → St → (List SV → Prop) → Prop
  | [], s, k => k []
  | .tmp t :: l, s, k => forceSV (ev s.fr (.tmp t)) fun v => sxRes P l s fun vs => k (v :: vs)
  | .cell a T :: l, s, k => ldOp P ⟨none, .load T (.tmp a), 0, "", #[], none⟩ T (.tmp a) s fun v => forceSV v fun v => sxRes P l s fun vs => k (v :: vs)

theorem sxRes_ok {P : Program} {a : Act} : ∀ (l : List ResultVar) {s : St} {k : List SV → Prop}, sxRes P l s k → Ag E ρ s.H s.G w → Rvs ρ s.fr a.tmps.toList →
    ∃ svs vs, k svs ∧ Rvs ρ svs vs ∧ (l.mapM (fun r => match r with | .tmp t => pure (a.tmps.getD t undef) | .cell x t => do loadVar t (← asAddr (a.tmps.getD x undef))) : Sem (List Value)).run P w = .ok vs w
  | [], s, k, h, hA, hF => ⟨[], [], h, by simp [Rvs], by simp⟩
  | .tmp t :: l, s, k, h, hA, hF => by
    simp only [sxRes, forceSV_eq] at h
    obtain ⟨svs, vs, hk, hr, hrun⟩ := sxRes_ok l h hA hF
    refine ⟨_, a.eval (.tmp t) :: vs, hk, ?_, ?_⟩
    · simp only [Rvs]; exact ⟨_, _, rfl, ev_ok hF (.tmp t), hr⟩
    · simp only [List.mapM_cons, Sem.run_bind, Sem.run_pure, Result.andThen_ok, hrun]; rfl
  | .cell x T :: l, s, k, h, hA, hF => by
    simp only [sxRes] at h
    obtain ⟨v, sv, hk, hrv, hrun⟩ := ld_ok (P := P) (E := E) (o := ⟨none, .load T (.tmp x), 0, "", #[], none⟩) rfl s _ a ρ w h hA hF
    rw [forceSV_eq] at hk
    obtain ⟨svs, vs, hk', hr, hrun'⟩ := sxRes_ok l hk hA hF
    have h1 := hrun w (Agr.refl _ _ _ _)
    refine ⟨_, v :: vs, hk', by simp only [Rvs]; exact ⟨_, _, rfl, hrv, hr⟩, ?_⟩
    have h2 : (do loadVar T (← asAddr (a.tmps.getD x undef)) : Sem Value).run P w = .ok v w := by
      simp only [execOp, Act.eval] at h1
      cases hx : a.tmps.getD x undef <;> simp only [hx, Instr.loadAt, Instr.sureAddr] at h1 <;> try (simp at h1; done)
      rename_i ad
      cases ad with
      | none => simp at h1
      | some ad =>
        simp only [Sem.run_bind, Sem.run_pure, Result.andThen_ok] at h1
        simp only [asAddr, Sem.run_bind, Sem.run_pure, Result.andThen_ok]
        cases hq : (loadVar T ad).run P w with
        | ok v' w' => rw [hq] at h1; simp at h1; obtain ⟨h1, h2⟩ := h1; rw [h1, h2]
        | halt q w' => rw [hq] at h1; simp at h1
    simp only [List.mapM_cons, Sem.run_bind, h2, Result.andThen_ok, hrun', Sem.run_pure]

def Kfin (P : Program) (rs : List ResultVar) (Post : SV → St → Prop) : Kont
  | .normal, s => sxRes P rs s fun vs => match vs with
    | [x] => Post x s
    | [] => Post (.tup []) s
    | x :: y :: l => Post (.tup (x :: y :: l)) s
  | .ret, s => sxRes P rs s fun vs => match vs with
    | [x] => Post x s
    | [] => Post (.tup []) s
    | x :: y :: l => Post (.tup (x :: y :: l)) s
  | .exit i, s => BadC (.exit i)

theorem sx_calls {P : Program} (hm : P.follows .mixedOrders = true) (Pl : List (Nat × Plan2)) {f : FuncId} {fn : Func} {body : Code} (hf : P.funcs[f]? = some fn) (hb : fn.body = some body)
    {args : List SV} {ys : List Value} {Post : SV → St → Prop} (hD : E.D = []) (hW0 : E.W = []) (hA : Ag E ρ H G w) (hargs : Rvs ρ args ys)
    (hS : forceSp (args ++ List.replicate (fn.ntmps - args.length) (.v undef)) fun fr => sxC P E Pl body (Kfin P fn.results.toList Post) ⟨fr, H, G⟩) :
    Calls P f ys.toArray w fun e w' => (∃ v sv s' ρ', e = .returned v ∧ Post sv s' ∧ Ag E ρ' s'.H s'.G w' ∧ Rv ρ' sv v) ∨ ∃ x H' G' ρ', e = .panicked [{ v := x, recovered := false }] ∧ E.Pan x H' G' ∧ Ag E ρ' H' G' w' := by
  rw [forceSp_eq] at hS
  refine calls_of_wp hf hb ?_
  refine sxC_ok hm Pl body (K := Kfin P fn.results.toList Post) ⟨?_, ?_, ?_⟩ hS hA ?_ ⟨hD.symm, by rw [hW0]; simp⟩ (okW_nil hW0 body)
  · have key : ∀ s', (sxRes P fn.results.toList s' fun vs => match vs with
        | [x] => Post x s'
        | [] => Post (.tup []) s'
        | x :: y :: l => Post (.tup (x :: y :: l)) s') → ∀ ρ' (a' : Act) w', Ag E ρ' s'.H s'.G w' → Rvs ρ' s'.fr a'.tmps.toList → E.Kp a' →
        a'.defers = [] ∧ ∃ v, (results fn a'.tmps).run P w' = .ok v w' ∧ ((∃ v1 sv s' ρ', Ending.returned v = .returned v1 ∧ Post sv s' ∧ Ag E ρ' s'.H s'.G w' ∧ Rv ρ' sv v1) ∨ ∃ x H' G' ρ', Ending.returned v = .panicked [{ v := x, recovered := false }] ∧ E.Pan x H' G' ∧ Ag E ρ' H' G' w') := by
      intro s' hs ρ' a' w' hA' hF' hd'
      obtain ⟨svs, vs, hk, hr, hrun⟩ := sxRes_ok fn.results.toList hs hA' hF'
      have hres : (results fn a'.tmps).run P w' = .ok (if h : vs.toArray.size = 1 then vs.toArray[0] else .tuple vs.toArray) w' := by
        unfold results
        rw [Array.mapM_eq_mapM_toList]
        simp only [Sem.run_bind, Sem.run_map]
        refine Eq.trans (congrArg (fun r : Result (List Value) => (r.andThen fun a w' => Result.ok a.toArray w').andThen fun (a : Array Value) w' => Sem.run P (pure (if h : a.size = 1 then a[0] else Value.tuple a)) w') hrun) ?_
        rfl
      refine ⟨hd'.1.trans hD, _, hres, .inl ?_⟩
      match svs, hk, hr with
      | [], hk, hr =>
        simp only [Rvs] at hr; subst hr
        exact ⟨_, _, s', ρ', rfl, hk, hA', by simp [Rv, Rvs]⟩
      | [x], hk, hr =>
        simp only [Rvs] at hr
        obtain ⟨y, yt, rfl, h1, rfl⟩ := hr
        exact ⟨_, _, s', ρ', rfl, hk, hA', by simpa using h1⟩
      | x :: y :: l, hk, hr =>
        have hl := hr.length
        refine ⟨_, _, s', ρ', rfl, hk, hA', ?_⟩
        rw [dif_neg (by simp at hl ⊢; omega)]
        simp only [Rv]
        exact ⟨_, rfl, by simpa using hr⟩
    intro e s' hs ρ' a' w' hA' hF' hd'
    cases e with
    | normal => exact key s' hs ρ' a' w' hA' hF' hd'
    | ret => exact key s' hs ρ' a' w' hA' hF' hd'
    | exit i => exact hs.no.elim
  · rintro c a d v w - ⟨h1, h2⟩
    refine ⟨by cases d <;> exact h1, h2⟩
  · intro x H' G' hp ρ' a' w' hA' hd'
    exact ⟨hd'.1.trans hD, .inr ⟨x, H', G', ρ', rfl, hp, hA'⟩⟩
  · have hl := hargs.length
    simp only [Array.toList_append, Array.toList_replicate, List.size_toArray, hl]
    refine hargs.append ?_
    have : ∀ n, Rvs ρ (List.replicate n (.v undef)) (List.replicate n undef) := by
      intro n
      induction n with
      | zero => simp [Rvs]
      | succ n ih => simp only [List.replicate_succ, Rvs]; exact ⟨_, _, rfl, by simp [Rv], ih⟩
    exact this _
end
end Go.SX

namespace Go.SX
set_option linter.unusedVariables false
set_option linter.unusedSimpArgs false

mutual
def SV.map (r : Nat → Option Nat) : SV → SV
  | .v x => .v x
  | .p i o => match r i with
    | some k => .p k o
    | none => .dead
  | .s i => match r i with
    | some k => .s k
    | none => .dead
  | .f fn a c => .f fn (maps r a) (maps r c)
  | .agg xs => .agg (maps r xs)
  | .tup xs => .tup (maps r xs)
  | .lit b => .lit b
  | .dead => .dead
def maps (r : Nat → Option Nat) : List SV → List SV
  | [] => []
  | x :: xs => x.map r :: maps r xs
end
def Ob.map (r : Nat → Option Nat) : Ob → Ob
  | .cells T xs => .cells T (maps r xs)
  | .row e sz n xs => .row e sz n xs
  | .lit T n xs => .lit T n (maps r xs)
  | .gone => .gone

section
variable {ρa ρb : List Value} {r : Nat → Option Nat}
mutual
theorem Rv.fwd (hr : ∀ i k x, r i = some k → ρa[i]? = some x → ρb[k]? = some x) : ∀ {x : SV} {y : Value}, Rv ρa x y → Rv ρb (x.map r) y
  | .v _, _, h => by simpa [Rv, SV.map] using h
  | .p i off, _, h => by
    simp only [Rv, SV.map] at h ⊢
    obtain ⟨x, b, hb, hx, rfl⟩ := h
    split
    · rename_i k hk; simp only [Rv]; exact ⟨x, b, hr i k x hk hb, hx, rfl⟩
    · simp [Rv]
  | .s i, _, h => by
    simp only [Rv, SV.map] at h ⊢
    split
    · rename_i k hk; simp only [Rv]; exact hr i k _ hk h
    · simp [Rv]
  | .f fn a c, _, h => by
    simp only [Rv, SV.map] at h ⊢
    obtain ⟨a', c', rfl, h1, h2⟩ := h
    exact ⟨a', c', rfl, Rvs.fwd hr h1, Rvs.fwd hr h2⟩
  | .agg xs, _, h => by
    simp only [Rv, SV.map] at h ⊢
    obtain ⟨ys, rfl, h1⟩ := h
    exact ⟨ys, rfl, Rvs.fwd hr h1⟩
  | .tup xs, _, h => by
    simp only [Rv, SV.map] at h ⊢
    obtain ⟨ys, rfl, h1⟩ := h
    exact ⟨ys, rfl, Rvs.fwd hr h1⟩
  | .lit _, _, h => by simpa [Rv, SV.map] using h
  | .dead, _, _ => by simp [Rv, SV.map]
theorem Rvs.fwd (hr : ∀ i k x, r i = some k → ρa[i]? = some x → ρb[k]? = some x) : ∀ {xs : List SV} {ys : List Value}, Rvs ρa xs ys → Rvs ρb (maps r xs) ys
  | [], _, h => by simpa [Rvs, maps] using h
  | x :: xs, _, h => by
    simp only [Rvs, maps] at h ⊢
    obtain ⟨y, yt, rfl, h1, h2⟩ := h
    exact ⟨y, yt, rfl, Rv.fwd hr h1, Rvs.fwd hr h2⟩
end
mutual
theorem Rv.bwd (hr : ∀ i, ∃ k, r i = some k ∧ ∀ x, ρb[k]? = some x → ρa[i]? = some x) : ∀ {x : SV} {y : Value}, Rv ρb (x.map r) y → Rv ρa x y
  | .v _, _, h => by simpa [Rv, SV.map] using h
  | .p i off, _, h => by
    obtain ⟨k, hk, hkx⟩ := hr i
    simp only [Rv, SV.map, hk] at h ⊢
    obtain ⟨x, b, hb, hx, rfl⟩ := h
    exact ⟨x, b, hkx x hb, hx, rfl⟩
  | .s i, _, h => by
    obtain ⟨k, hk, hkx⟩ := hr i
    simp only [Rv, SV.map, hk] at h ⊢
    exact hkx _ h
  | .f fn a c, _, h => by
    simp only [Rv, SV.map] at h ⊢
    obtain ⟨a', c', rfl, h1, h2⟩ := h
    exact ⟨a', c', rfl, Rvs.bwd hr h1, Rvs.bwd hr h2⟩
  | .agg xs, _, h => by
    simp only [Rv, SV.map] at h ⊢
    obtain ⟨ys, rfl, h1⟩ := h
    exact ⟨ys, rfl, Rvs.bwd hr h1⟩
  | .tup xs, _, h => by
    simp only [Rv, SV.map] at h ⊢
    obtain ⟨ys, rfl, h1⟩ := h
    exact ⟨ys, rfl, Rvs.bwd hr h1⟩
  | .lit _, _, h => by simpa [Rv, SV.map] using h
  | .dead, _, _ => by simp [Rv]
theorem Rvs.bwd (hr : ∀ i, ∃ k, r i = some k ∧ ∀ x, ρb[k]? = some x → ρa[i]? = some x) : ∀ {xs : List SV} {ys : List Value}, Rvs ρb (maps r xs) ys → Rvs ρa xs ys
  | [], _, h => by simpa [Rvs, maps] using h
  | x :: xs, _, h => by
    simp only [Rvs, maps] at h ⊢
    obtain ⟨y, yt, rfl, h1, h2⟩ := h
    exact ⟨y, yt, rfl, Rv.bwd hr h1, Rvs.bwd hr h2⟩
end
theorem ObOK.fwd {w : World} (hr : ∀ i k x, r i = some k → ρa[i]? = some x → ρb[k]? = some x) {ob : Ob} {x : Value} (h : ObOK ρa w ob x) : ObOK ρb w (ob.map r) x := by
  cases ob with
  | cells T xs => simp only [ObOK, Ob.map] at h ⊢; obtain ⟨b, cs, rfl, h1, h2⟩ := h; exact ⟨b, cs, rfl, h1, Rvs.fwd hr h2⟩
  | row e sz n xs => exact h
  | lit T n xs => simp only [ObOK, Ob.map] at h ⊢; obtain ⟨b, cs, rfl, h1, h2⟩ := h; exact ⟨b, cs, rfl, h1, Rvs.fwd hr h2⟩
  | gone => exact h
theorem ObOK.bwd {w : World} (hr : ∀ i, ∃ k, r i = some k ∧ ∀ x, ρb[k]? = some x → ρa[i]? = some x) {ob : Ob} {x : Value} (h : ObOK ρb w (ob.map r) x) : ObOK ρa w ob x := by
  cases ob with
  | cells T xs => simp only [ObOK, Ob.map] at h ⊢; obtain ⟨b, cs, rfl, h1, h2⟩ := h; exact ⟨b, cs, rfl, h1, Rvs.bwd hr h2⟩
  | row e sz n xs => exact h
  | lit T n xs => simp only [ObOK, Ob.map] at h ⊢; obtain ⟨b, cs, rfl, h1, h2⟩ := h; exact ⟨b, cs, rfl, h1, Rvs.bwd hr h2⟩
  | gone => exact h
end

/-- The callee's number of an object, in the caller's numbers: the objects that were handed on; new ones behind the caller's. -/
def rn (m : List Nat) (N : Nat) (i : Nat) : Option Nat :=
  match nth m i with
  | some k => some k
  | none => some (N + (i - m.length))
def km (kl : List Nat) (i : Nat) : Option Nat :=
  match memN i kl with
  | true => none
  | false => some i

def subH (m : List Nat) (N : Nat) (H : List Ob) : List Nat → List Ob → Prop
  | [], [] => True
  | k :: ks, ob :: obs => nth H k = some (ob.map (rn m N)) ∧ subH m N H ks obs
  | _, _ => False
theorem subH_len {m : List Nat} {N : Nat} {H : List Ob} : ∀ {ks : List Nat} {obs : List Ob}, subH m N H ks obs → obs.length = ks.length
  | [], [], _ => rfl
  | k :: ks, ob :: obs, h => by simp [subH_len h.2]
  | [], _ :: _, h => h.elim
  | _ :: _, [], h => h.elim
theorem subH_get {m : List Nat} {N : Nat} {H : List Ob} : ∀ {ks : List Nat} {obs : List Ob}, subH m N H ks obs → ∀ (i : Nat) ob, obs[i]? = some ob → ∃ k, ks[i]? = some k ∧ H[k]? = some (ob.map (rn m N))
  | [], [], _, i, ob, h => by simp at h
  | k :: ks, ob0 :: obs, h, 0, ob, hi => by simp at hi; subst hi; exact ⟨k, by simp, by rw [← nth_eq]; exact h.1⟩
  | k :: ks, ob0 :: obs, h, i + 1, ob, hi => by simpa using subH_get h.2 i ob (by simpa using hi)
  | [], _ :: _, h, _, _, _ => h.elim
  | _ :: _, [], h, _, _, _ => h.elim

def Fof (ρ : List Value) (b : Nat) : Prop := ∃ (i : Nat) (x : Value), ρ[i]? = some x ∧ blkOf x = some b
def Fr (w : World) (ρ : List Value) (G : Gh) : Env := { w0 := w, F := Fof ρ, ρ0 := ρ, G0 := G }
def pick (ρ : List Value) (m : List Nat) : List Value := m.map fun k => (ρ[k]?).getD .nilFunc
theorem pick_get {ρ : List Value} {m : List Nat} {i : Nat} {x : Value} (h : (pick ρ m)[i]? = some x) : ∃ k, m[i]? = some k ∧ x = (ρ[k]?).getD .nilFunc := by
  unfold pick at h
  rw [List.getElem?_map] at h
  obtain ⟨k, hk, rfl⟩ := Option.map_eq_some_iff.1 h
  exact ⟨k, hk, rfl⟩

section
variable {E : Env} {ρ : List Value} {H : List Ob} {G : Gh} {w : World}

theorem rn_bwd {m : List Nat} (hlen : ρ.length = H.length) : ∀ i, ∃ k, rn m H.length i = some k ∧ ∀ x, ρ[k]? = some x → (pick ρ m)[i]? = some x := by
  intro i
  unfold rn
  rw [nth_eq]
  cases hm : m[i]? with
  | some k => exact ⟨k, rfl, fun x hx => by unfold pick; rw [List.getElem?_map, hm]; simp [hx]⟩
  | none => exact ⟨_, rfl, fun x hx => by have := (List.getElem?_eq_some_iff.1 hx).1; omega⟩

theorem Ag.sub (h : Ag E ρ H G w) {m : List Nat} {H0 : List Ob} (hs : subH m H.length H m H0) (hm : m.Nodup) : Ag (Fr w (pick ρ m) G) (pick ρ m) H0 G w := by
  have hget : ∀ (i : Nat) x, (pick ρ m)[i]? = some x → ∃ k, m[i]? = some k ∧ ρ[k]? = some x := by
    intro i x hx
    obtain ⟨k, hk, rfl⟩ := pick_get hx
    have hi : i < H0.length := by rw [subH_len hs]; exact (List.getElem?_eq_some_iff.1 hk).1
    obtain ⟨k', hk', hH⟩ := subH_get hs i _ (List.getElem?_eq_getElem hi)
    rw [hk] at hk'; simp at hk'; subst hk'
    have : k < ρ.length := by rw [h.len]; exact (List.getElem?_eq_some_iff.1 hH).1
    exact ⟨k, hk, by simp [List.getElem?_eq_getElem this]⟩
  refine ⟨by rw [subH_len hs]; simp [pick], ?_, ?_, ?_, h.ext, fun _ _ _ => rfl, Nat.le_refl _, rfl, rfl, rfl, fun i a hi => hi, fun _ _ hx => hx, fun _ _ hx => .inl hx⟩
  · intro i ob x hob hx
    obtain ⟨k, hk, hkx⟩ := hget i x hx
    obtain ⟨k', hk', hH⟩ := subH_get hs i ob hob
    rw [hk] at hk'; simp at hk'; subst hk'
    exact (h.obs k _ x hH hkx).bwd (rn_bwd h.len)
  · intro i j x y b hx hy hxb hyb
    obtain ⟨k, hk, hkx⟩ := hget i x hx
    obtain ⟨k', hk', hky⟩ := hget j y hy
    have := h.apart k k' x y b hkx hky hxb hyb
    subst this
    exact (List.getElem?_inj (List.getElem?_eq_some_iff.1 hk).1 hm).1 (hk.trans hk'.symm)
  · intro i x b hx hxb
    obtain ⟨k, hk, hkx⟩ := hget i x hx
    obtain ⟨h1, h2, _⟩ := h.own k x b hkx hxb
    exact ⟨h1, h2, .inr ⟨i, x, hx, hxb⟩⟩

/-- A contract: for these arguments and objects the function comes to a result and objects of which Post holds. -/
structure Ct (P : Program) (f : FuncId) (args : List SV) (H : List Ob) (G : Gh) (Post : SV → List Ob → Gh → Prop) : Prop where
  enters : ∀ (args : Array Value) (w : World), (callFunc f args).run P w = .ok (.enter f args) w
  calls : ∀ ρ w ys, Ag (Fr w ρ G) ρ H G w → Rvs ρ args ys → Calls P f ys.toArray w fun e w' => ∃ v sv H' G' ρ', e = .returned v ∧ Post sv H' G' ∧ Ag (Fr w ρ G) ρ' H' G' w' ∧ Rv ρ' sv v

/-- The end of a walk: what is behind it can be told as Post says. -/
structure Fin (E : Env) (Post : SV → List Ob → Gh → Prop) (sv : SV) (s : St) : Prop where
  out : ∀ ρ w v, Ag E ρ s.H s.G w → Rv ρ sv v → ∃ ρ' H' G' sv', Post sv' H' G' ∧ Ag E ρ' H' G' w ∧ Rv ρ' sv' v

theorem enters_of {P : Program} {f : FuncId} {fn : Func} {c : Code} (hf : P.funcs[f]? = some fn) (hname : (fn.name == "runtime.NumGoroutine") = false) (hb : fn.body = some c) :
    ∀ (args : Array Value) (w : World), (callFunc f args).run P w = .ok (.enter f args) w := by
  intro args w
  have h1 : fn.name ≠ "runtime.NumGoroutine" := by simpa using hname
  simp [callFunc, hf, h1, hb, mark]

theorem fn_of {P : Program} (hm : P.follows .mixedOrders = true) (Pl : List (Nat × Plan2)) {f : FuncId} {fn : Func} {body : Code} (hf : P.funcs[f]? = some fn) (hb : fn.body = some body)
    (hname : (fn.name == "runtime.NumGoroutine") = false) {args : List SV} {H : List Ob} {G : Gh} {Post : SV → List Ob → Gh → Prop}
    (hS : ∀ E : Env, E.ρ0.length = H.length → forceSp (args ++ List.replicate (fn.ntmps - args.length) (.v undef)) fun fr => sxC P E Pl body (Kfin P fn.results.toList (Fin E Post)) ⟨fr, H, G⟩) : Ct P f args H G Post := by
  refine ⟨enters_of hf hname hb, fun ρ w ys hA hargs => ?_⟩
  refine (sx_calls hm Pl hf hb rfl rfl hA hargs (hS _ hA.len)).mono fun e w' hh => ?_
  rcases hh with ⟨v, sv, s', ρ', rfl, hfin, hA', hr⟩ | ⟨x, H', G', ρ', rfl, hp, hA'⟩
  case inr => exact hp.elim
  obtain ⟨ρ2, H2, G2, sv2, hp, hA2, hr2⟩ := hfin.out ρ' w' v hA' hr
  exact ⟨v, sv2, H2, G2, ρ2, rfl, hp, hA2, hr2⟩

/-- A selection of the objects at the end. -/
theorem fin_sel {Post : SV → List Ob → Gh → Prop} {sv : SV} {s : St} (n : Nat) (hn : E.ρ0.length ≤ n) (keep : List Nat) (sv' : SV) (H' : List Ob) (hnd : keep.Nodup) (hk : ∀ i, i < n → keep[i]? = some i)
    (hsub : subH keep s.H.length s.H keep H') (hsv : sv = sv'.map (rn keep s.H.length)) (hp : Post sv' H' s.G) : Fin E Post sv s := by
  refine ⟨fun ρ' w' v hA' hr => ?_⟩
  subst hsv
  have hA2 := hA'.sub hsub hnd
  have hkeep : ∀ (i : Nat) x, (pick ρ' keep)[i]? = some x → ∃ k, keep[i]? = some k ∧ ρ'[k]? = some x := by
    intro i x hx
    obtain ⟨k, hk', rfl⟩ := pick_get hx
    have hi : i < H'.length := by rw [subH_len hsub]; exact (List.getElem?_eq_some_iff.1 hk').1
    obtain ⟨k', hk'', hH⟩ := subH_get hsub i _ (List.getElem?_eq_getElem hi)
    rw [hk'] at hk''; simp at hk''; subst hk''
    have : k < ρ'.length := by rw [hA'.len]; exact (List.getElem?_eq_some_iff.1 hH).1
    exact ⟨k, hk', by simp [List.getElem?_eq_getElem this]⟩
  refine ⟨pick ρ' keep, H', s.G, sv', hp, ?_, hr.bwd (rn_bwd hA'.len)⟩
  refine ⟨hA2.len, hA2.obs, hA2.apart, ?_, hA'.ext, hA'.frame, hA'.size, hA'.os, hA'.tape, hA'.output, ?_, hA'.gold, hA'.gnew⟩
  · intro i x b hx hxb
    obtain ⟨k, hk', hkx⟩ := hkeep i x hx
    exact hA'.own k x b hkx hxb
  · intro i a hi
    have h1 := hA'.old i a hi
    have hin : i < n := Nat.lt_of_lt_of_le (List.getElem?_eq_some_iff.1 hi).1 hn
    unfold pick
    rw [List.getElem?_map, hk i hin]
    simp [h1]

/-! ### a call by a contract -/
def setAll {α : Type} : List α → List Nat → List α → List α
  | l, k :: ks, x :: xs => setAll (l.set k x) ks xs
  | l, _, _ => l
theorem setAll_length {α : Type} : ∀ (l : List α) (ks : List Nat) (xs : List α), (setAll l ks xs).length = l.length
  | l, k :: ks, x :: xs => by rw [setAll, setAll_length]; simp
  | l, [], _ => by simp [setAll]
  | l, _ :: _, [] => by simp [setAll]
theorem setAll_other {α : Type} : ∀ (l : List α) (ks : List Nat) (xs : List α) (j : Nat), j ∉ ks → (setAll l ks xs)[j]? = l[j]?
  | l, k :: ks, x :: xs, j, h => by
    rw [setAll, setAll_other _ ks xs j (fun hh => h (List.mem_cons_of_mem _ hh)), List.getElem?_set_ne (fun e => h (by simp [e]))]
  | l, [], _, _, _ => by simp [setAll]
  | l, _ :: _, [], _, _ => by simp [setAll]
theorem setAll_get {α : Type} : ∀ (l : List α) (ks : List Nat) (xs : List α) (i k : Nat) (x : α), ks.Nodup → ks[i]? = some k → xs[i]? = some x → k < l.length → (setAll l ks xs)[k]? = some x
  | l, k :: ks, x :: xs, 0, k', x', hn, hk, hx, hl => by
    simp at hk hx; subst hk hx
    rw [setAll, setAll_other _ _ _ _ (List.nodup_cons.1 hn).1, List.getElem?_set_self hl]
  | l, k :: ks, x :: xs, i + 1, k', x', hn, hk, hx, hl => by
    rw [setAll]
    exact setAll_get _ ks xs i k' x' (List.nodup_cons.1 hn).2 (by simpa using hk) (by simpa using hx) (by simpa using hl)
  | l, [], _, i, k, x, _, hk, _, _ => by simp at hk
  | l, _ :: _, [], i, k, x, _, _, hx, _ => by simp at hx

/-- The objects of m that are no cells: their slices are gone behind the call. -/
def killOf (H : List Ob) : List Nat → List Nat
  | [] => []
  | k :: ks => match nth H k with
    | some (.cells _ _) => killOf H ks
    | _ => k :: killOf H ks
theorem killOf_ok {H : List Ob} : ∀ {m : List Nat} {k : Nat}, k ∈ m → k ∉ killOf H m → ∃ T xs, H[k]? = some (.cells T xs)
  | [], _, h, _ => by simp at h
  | k0 :: ks, k, h, hn => by
    simp only [killOf, nth_eq] at hn
    split at hn
    · rename_i T xs hk
      rcases List.mem_cons.1 h with rfl | h
      · exact ⟨T, xs, hk⟩
      · exact killOf_ok h hn
    · rcases List.mem_cons.1 h with rfl | h
      · exact absurd (by simp) hn
      · exact killOf_ok h (fun hh => hn (List.mem_cons_of_mem _ hh))

def obmaps (r : Nat → Option Nat) : List Ob → List Ob
  | [] => []
  | ob :: l => ob.map r :: obmaps r l
theorem obmaps_eq (r : Nat → Option Nat) : ∀ l, obmaps r l = l.map (Ob.map r)
  | [] => rfl
  | ob :: l => by simp [obmaps, obmaps_eq r l]
/-- The caller's state behind the call. -/
def callEnd (m : List Nat) (s : St) (sv : SV) (H' : List Ob) (G' : Gh) (K : List Nat → SV → St → Prop) : Prop :=
  match killOf s.H m with
  | [] => s.un fun fr H _ => forceObs (obmaps (rn m H.length) H') fun O => forceSp (setAll H m O ++ O.drop m.length) fun H2 => forceSV (sv.map (rn m H.length)) fun sv' => K m sv' ⟨fr, H2, G'⟩
  | q :: qs => s.un fun fr H _ => forceL (maps (km (q :: qs)) fr) fun fr' =>
    forceObs (setAll (obmaps (km (q :: qs)) H) m (obmaps (rn m H.length) H') ++ (obmaps (rn m H.length) H').drop m.length) fun H2 =>
      forceSV (sv.map (rn m H.length)) fun sv' => K m sv' ⟨fr', H2, G'⟩
mutual
theorem SV.map_id0 {r : Nat → Option Nat} (hr : ∀ i, r i = some i) : ∀ (x : SV), x.map r = x
  | .v _ => rfl
  | .p i o => by simp [SV.map, hr]
  | .s i => by simp [SV.map, hr]
  | .f fn a c => by simp [SV.map, maps_id0 hr a, maps_id0 hr c]
  | .agg xs => by simp [SV.map, maps_id0 hr xs]
  | .tup xs => by simp [SV.map, maps_id0 hr xs]
  | .lit _ => rfl
  | .dead => rfl
theorem maps_id0 {r : Nat → Option Nat} (hr : ∀ i, r i = some i) : ∀ (xs : List SV), maps r xs = xs
  | [] => rfl
  | x :: xs => by simp [maps, SV.map_id0 hr x, maps_id0 hr xs]
end
theorem obmaps_id0 {r : Nat → Option Nat} (hr : ∀ i, r i = some i) : ∀ (l : List Ob), obmaps r l = l
  | [] => rfl
  | ob :: l => by
    rw [obmaps, obmaps_id0 hr l]
    cases ob <;> simp [Ob.map, maps_id0 hr]
theorem km_nil0 : ∀ i, km [] i = some i := fun _ => rfl
theorem callEnd_eq (m : List Nat) (s : St) (sv : SV) (H' : List Ob) (G' : Gh) (K : List Nat → SV → St → Prop) : callEnd m s sv H' G' K =
    K m (sv.map (rn m s.H.length)) ⟨maps (km (killOf s.H m)) s.fr, setAll (obmaps (km (killOf s.H m)) s.H) m (obmaps (rn m s.H.length) H') ++ (obmaps (rn m s.H.length) H').drop m.length, G'⟩ := by
  unfold callEnd
  split
  · rename_i h; rw [h, maps_id0 km_nil0, obmaps_id0 km_nil0, St.un_eq, forceObs_eq, forceSp_eq, forceSV_eq]
  · rename_i q qs h; rw [h, St.un_eq, forceL_eq, forceObs_eq, forceSV_eq]

theorem Ag.back (h : Ag E ρ H G w) {m : List Nat} {H0 : List Ob} (hs : subH m H.length H m H0) (hm : m.Nodup) {w' : World} {ρa : List Value} {Ha : List Ob} {G' : Gh} (hlen : m.length ≤ Ha.length)
    (hA : Ag (Fr w (pick ρ m) G) ρa Ha G' w') :
    ∃ ρ', Ag E ρ' (setAll (obmaps (km (killOf H m)) H) m (obmaps (rn m H.length) Ha) ++ (obmaps (rn m H.length) Ha).drop m.length) G' w' ∧
      (∀ i k x, rn m H.length i = some k → ρa[i]? = some x → ρ'[k]? = some x) ∧ (∀ i k x, km (killOf H m) i = some k → ρ[i]? = some x → ρ'[k]? = some x) ∧ Fp ρ ρ' G G' m w w' := by
  have hmlt : ∀ (i k : Nat), m[i]? = some k → k < H.length := by
    intro i k hk
    have hi : i < H0.length := by rw [subH_len hs]; exact (List.getElem?_eq_some_iff.1 hk).1
    obtain ⟨k', hk', hH⟩ := subH_get hs i _ (List.getElem?_eq_getElem hi)
    rw [hk] at hk'; simp at hk'; subst hk'
    exact (List.getElem?_eq_some_iff.1 hH).1
  have hmem : ∀ k, k ∈ m → ∃ i, m[i]? = some k := fun k hk => List.getElem?_of_mem hk
  have hra : m.length ≤ ρa.length := by rw [hA.len]; exact hlen
  let ρ' := setAll ρ m ρa ++ ρa.drop m.length
  have hl1 : (setAll ρ m ρa).length = H.length := by rw [setAll_length, h.len]
  have hN : ∀ k, k < H.length → k ∉ m → ρ'[k]? = ρ[k]? := fun k hk hkm => by
    show (setAll ρ m ρa ++ ρa.drop m.length)[k]? = _
    rw [List.getElem?_append_left (by rw [hl1]; exact hk), setAll_other _ _ _ _ hkm]
  have hM : ∀ (i k : Nat) x, m[i]? = some k → ρa[i]? = some x → ρ'[k]? = some x := fun i k x hk hx => by
    show (setAll ρ m ρa ++ ρa.drop m.length)[k]? = _
    rw [List.getElem?_append_left (by rw [hl1]; exact hmlt i k hk)]
    exact setAll_get ρ m ρa i k x hm hk hx (by rw [h.len]; exact hmlt i k hk)
  have hX : ∀ (i : Nat) x, m.length ≤ i → ρa[i]? = some x → ρ'[H.length + (i - m.length)]? = some x := fun i x hi hx => by
    show (setAll ρ m ρa ++ ρa.drop m.length)[H.length + (i - m.length)]? = _
    rw [List.getElem?_append_right (by rw [hl1]; omega), hl1, List.getElem?_drop]
    rw [show m.length + (H.length + (i - m.length) - H.length) = i by omega]; exact hx
  have hr : ∀ i k x, rn m H.length i = some k → ρa[i]? = some x → ρ'[k]? = some x := by
    intro i k x hk hx
    unfold rn at hk
    rw [nth_eq] at hk
    cases hmi : m[i]? with
    | some k' => rw [hmi] at hk; simp at hk; subst hk; exact hM i _ x hmi hx
    | none => rw [hmi] at hk; simp at hk; subst hk; exact hX i x (by simpa using hmi) hx
  have hold : ∀ (i k : Nat) T xs, m[i]? = some k → H[k]? = some (.cells T xs) → ∀ x, ρ[k]? = some x → ρ'[k]? = some x := by
    intro i k T xs hk hH x hx
    have ho := h.obs k _ x hH hx
    simp only [ObOK] at ho
    obtain ⟨b, cs, rfl, _⟩ := ho
    exact hM i k _ hk (hA.old i ⟨b, 0, none⟩ (by show (pick ρ m)[i]? = _; unfold pick; rw [List.getElem?_map, hk]; simp [hx]))
  have hkm : ∀ i k x, km (killOf H m) i = some k → ρ[i]? = some x → ρ'[k]? = some x := by
    intro i k x hk hx
    unfold km at hk
    split at hk <;> simp at hk
    subst hk
    rename_i hnk
    have hi : i < H.length := by rw [← h.len]; exact (List.getElem?_eq_some_iff.1 hx).1
    by_cases him : i ∈ m
    · obtain ⟨j, hj⟩ := hmem i him
      obtain ⟨T, xs, hH⟩ := killOf_ok him (fun hh => by rw [memN_iff.2 hh] at hnk; simp at hnk)
      exact hold j i T xs hj hH x hx
    · rw [hN i hi him]; exact hx
  -- who is who
  have whoρ : ∀ (j : Nat) x, ρ'[j]? = some x → (j < H.length ∧ j ∉ m ∧ ρ[j]? = some x) ∨ ∃ i : Nat, ρa[i]? = some x ∧ ((m[i]? = some j) ∨ (m.length ≤ i ∧ j = H.length + (i - m.length))) := by
    intro j x hx
    by_cases hj : j < H.length
    · by_cases hjm : j ∈ m
      · obtain ⟨i, hi⟩ := hmem j hjm
        have : i < ρa.length := Nat.lt_of_lt_of_le (List.getElem?_eq_some_iff.1 hi).1 hra
        have h1 := hM i j _ hi (List.getElem?_eq_getElem this)
        rw [hx] at h1
        exact .inr ⟨i, by rw [List.getElem?_eq_getElem this]; exact h1.symm, .inl hi⟩
      · rw [hN j hj hjm] at hx; exact .inl ⟨hj, hjm, hx⟩
    · have hx' : (setAll ρ m ρa ++ ρa.drop m.length)[j]? = some x := hx
      rw [List.getElem?_append_right (by rw [hl1]; omega), hl1, List.getElem?_drop] at hx'
      exact .inr ⟨m.length + (j - H.length), hx', .inr ⟨by omega, by omega⟩⟩
  have uniq : ∀ (i i' j : Nat), ((m[i]? = some j) ∨ (m.length ≤ i ∧ j = H.length + (i - m.length))) → ((m[i']? = some j) ∨ (m.length ≤ i' ∧ j = H.length + (i' - m.length))) → i = i' := by
    intro i i' j h1 h2
    rcases h1 with h1 | ⟨h1, h1'⟩ <;> rcases h2 with h2 | ⟨h2, h2'⟩
    · exact (List.getElem?_inj (List.getElem?_eq_some_iff.1 h1).1 hm).1 (h1.trans h2.symm)
    · have := hmlt i j h1; omega
    · have := hmlt i' j h2; omega
    · omega
  have uniq' : ∀ (i j j' : Nat), ((m[i]? = some j) ∨ (m.length ≤ i ∧ j = H.length + (i - m.length))) → ((m[i]? = some j') ∨ (m.length ≤ i ∧ j' = H.length + (i - m.length))) → j = j' := by
    intro i j j' h1 h2
    rcases h1 with h1 | ⟨h1, h1'⟩ <;> rcases h2 with h2 | ⟨h2, h2'⟩
    · rw [h1] at h2; simpa using h2
    · have := (List.getElem?_eq_some_iff.1 h1).1; omega
    · have := (List.getElem?_eq_some_iff.1 h2).1; omega
    · omega
  have fof : ∀ b, Fof (pick ρ m) b → ∃ (i k : Nat) (x : Value), m[i]? = some k ∧ ρ[k]? = some x ∧ blkOf x = some b := by
    rintro b ⟨i, x, hx, hxb⟩
    obtain ⟨k, hk, rfl⟩ := pick_get hx
    have : k < ρ.length := by rw [h.len]; exact hmlt i k hk
    rw [List.getElem?_eq_getElem this] at hxb
    exact ⟨i, k, _, hk, List.getElem?_eq_getElem this, hxb⟩
  have away : ∀ (j : Nat) x b, j ∉ m → ρ[j]? = some x → blkOf x = some b → b < w.heap.size ∧ ¬ Fof (pick ρ m) b := by
    intro j x b hjm hx hxb
    refine ⟨(h.own j x b hx hxb).1, fun hF => ?_⟩
    obtain ⟨i, k, y, hk, hy, hyb⟩ := fof b hF
    have := h.apart j k x y b hx hy hxb hyb
    subst this
    exact hjm (List.mem_of_getElem? hk)
  have keep : ∀ b, b < w.heap.size → ¬ Fof (pick ρ m) b → w'.heap[b]? = w.heap[b]? := hA.frame
  have calleeB : ∀ (i : Nat) x b, ρa[i]? = some x → blkOf x = some b → b < w'.heap.size ∧ G' b = none ∧ (w.heap.size ≤ b ∨ Fof (pick ρ m) b) := hA.own
  refine ⟨ρ', ⟨?_, ?_, ?_, ?_, hA.ext, ?_, Nat.le_trans h.size hA.size, hA.os.trans h.os, hA.tape.trans h.tape, hA.output.trans h.output, ?_, fun b o hb => hA.gold b o (h.gold b o hb), ?_⟩, hr, hkm, ?_⟩
  · simp [ρ', setAll_length, obmaps_eq, h.len, hA.len]
  · intro j ob x hob hx
    have hl2 : (setAll (obmaps (km (killOf H m)) H) m (obmaps (rn m H.length) Ha)).length = H.length := by rw [setAll_length, obmaps_eq]; simp
    have fin : ∀ (i : Nat), ρa[i]? = some x → ((m[i]? = some j) ∨ (m.length ≤ i ∧ j = H.length + (i - m.length))) → ObOK ρ' w' ob x := by
      intro i hi hij
      have hiH : i < Ha.length := by rw [← hA.len]; exact (List.getElem?_eq_some_iff.1 hi).1
      have hHa := List.getElem?_eq_getElem hiH
      have hob' : ob = (Ha[i]).map (rn m H.length) := by
        rcases hij with hk | ⟨hge, rfl⟩
        · rw [List.getElem?_append_left (by rw [hl2]; exact hmlt i j hk)] at hob
          have := setAll_get (obmaps (km (killOf H m)) H) m (obmaps (rn m H.length) Ha) i j ((Ha[i]).map (rn m H.length)) hm hk (by rw [obmaps_eq, List.getElem?_map, hHa]; rfl) (by rw [obmaps_eq]; simpa using hmlt i j hk)
          rw [this] at hob; simpa using hob.symm
        · rw [List.getElem?_append_right (by rw [hl2]; omega), hl2, List.getElem?_drop, show m.length + (H.length + (i - m.length) - H.length) = i by omega, obmaps_eq, List.getElem?_map, hHa] at hob
          simpa using hob.symm
      rw [hob']
      exact (hA.obs i _ x hHa hi).fwd hr
    rcases whoρ j x hx with ⟨hj, hjm, hx'⟩ | ⟨i, hi, hij⟩
    · rw [List.getElem?_append_left (by rw [hl2]; exact hj), setAll_other _ _ _ _ hjm, obmaps_eq, List.getElem?_map] at hob
      obtain ⟨ob0, h0, rfl⟩ := Option.map_eq_some_iff.1 hob
      refine ((h.obs j ob0 x h0 hx').mono fun b hb => ?_).fwd hkm
      obtain ⟨h1, h2⟩ := away j x b hjm hx' hb
      exact keep b h1 h2
    · exact fin i hi hij
  · intro j k x y b hx hy hxb hyb
    rcases whoρ j x hx with ⟨hj, hjm, hx'⟩ | ⟨i, hi, hij⟩ <;> rcases whoρ k y hy with ⟨hk, hkm', hy'⟩ | ⟨i', hi', hij'⟩
    · exact h.apart j k x y b hx' hy' hxb hyb
    · obtain ⟨h1, h2⟩ := away j x b hjm hx' hxb
      rcases (calleeB i' y b hi' hyb).2.2 with h3 | h3
      · omega
      · exact absurd h3 h2
    · obtain ⟨h1, h2⟩ := away k y b hkm' hy' hyb
      rcases (calleeB i x b hi hxb).2.2 with h3 | h3
      · omega
      · exact absurd h3 h2
    · have := hA.apart i i' x y b hi hi' hxb hyb
      subst this
      exact uniq' i j k hij hij'
  · intro j x b hx hxb
    rcases whoρ j x hx with ⟨hj, hjm, hx'⟩ | ⟨i, hi, hij⟩
    · obtain ⟨h1, h2, h3⟩ := h.own j x b hx' hxb
      refine ⟨Nat.lt_of_lt_of_le h1 hA.size, ?_, h3⟩
      cases hg : G' b with
      | none => rfl
      | some o =>
        rcases hA.gnew b o hg with h4 | h4 | h4
        · have h4' : G b = some o := h4
          rw [h2] at h4'; simp at h4'
        · have h4' : w.heap.size ≤ b := h4
          omega
        · exact absurd h4 (away j x b hjm hx' hxb).2
    · obtain ⟨h1, h2, h3⟩ := calleeB i x b hi hxb
      refine ⟨h1, h2, ?_⟩
      rcases h3 with h3 | h3
      · exact .inl (Nat.le_trans h.size h3)
      · obtain ⟨i', k, y, hk, hy, hyb⟩ := fof b h3
        exact (h.own k y b hy hyb).2.2
  · intro b hb hF
    have : ¬ Fof (pick ρ m) b := fun hf => by
      obtain ⟨i', k, y, hk, hy, hyb⟩ := fof b hf
      rcases (h.own k y b hy hyb).2.2 with h3 | h3
      · omega
      · exact hF h3
    rw [keep b (Nat.lt_of_lt_of_le hb h.size) this]; exact h.frame b hb hF
  · intro i a hi
    have h1 := h.old i a hi
    have hil : i < H.length := by rw [← h.len]; exact (List.getElem?_eq_some_iff.1 h1).1
    by_cases him : i ∈ m
    · obtain ⟨j, hj⟩ := hmem i him
      exact hM j i _ hj (hA.old j a (by show (pick ρ m)[j]? = _; unfold pick; rw [List.getElem?_map, hj]; simp [h1]))
    · rw [hN i hil him]; exact h1
  · intro b o hb
    rcases hA.gnew b o hb with h4 | h4 | h4
    · exact h.gnew b o h4
    · exact .inr (.inl (Nat.le_trans h.size h4))
    · obtain ⟨i', k, y, hk, hy, hyb⟩ := fof b h4
      exact .inr (h.own k y b hy hyb).2.2
  · refine ⟨fun b hb hT => keep b hb fun hf => ?_, fun i x him hx => ?_, hA.gold⟩
    · obtain ⟨i', k, y, hk, hy, hyb⟩ := fof b hf
      exact hT k (List.mem_of_getElem? hk) y hy hyb
    · have hil : i < H.length := by rw [← h.len]; exact (List.getElem?_eq_some_iff.1 hx).1
      rw [hN i hil him]; exact hx

/-- A call of a function with a contract. m: the caller's objects that are handed on. -/
theorem call_fn {P : Program} {f : FuncId} {args args0 : List SV} {s : St} {K : List Nat → SV → St → Prop} {H0 : List Ob} {Post : SV → List Ob → Gh → Prop} (m : List Nat)
    (hf : Ct P f args0 H0 s.G Post) (hargs : args = maps (rn m s.H.length) args0) (hs : subH m s.H.length s.H m H0) (hm : m.Nodup)
    (hK : ∀ sv H' G', Post sv H' G' → (∀ b o, s.G b = some o → G' b = some o) → m.length ≤ H'.length ∧ callEnd m s sv H' G' K) : CallVC P E f args s K := by
  refine ⟨hf.enters, fun ρ w ys hA hargs' => ?_⟩
  subst hargs
  have hA0 := hA.sub hs hm
  refine (hf.calls (pick ρ m) w ys hA0 (Rvs.bwd (rn_bwd hA.len) hargs')).mono fun e w' hh => ?_
  obtain ⟨v, sv, H', G', ρ', rfl, hp, hA', hr⟩ := hh
  obtain ⟨hlen, hend⟩ := hK sv H' G' hp hA'.gold
  obtain ⟨ρ2, hA2, hr2, hkm2, hfp⟩ := hA.back hs hm hlen hA'
  rw [callEnd_eq] at hend
  exact .inl ⟨v, m, _, _, ρ2, rfl, hend, hA2, Rv.fwd hr2 hr, fun zs hz => Rvs.fwd hkm2 hz, hfp⟩
end
end Go.SX

namespace Go.SX
set_option linter.unusedVariables false
set_option linter.unusedSimpArgs false

def keepc (n : Nat) (keep : List Nat) : Bool := decide keep.Nodup && (List.range n).all fun i => keep[i]? == some i
theorem fin_mk {E : Env} {n : Nat} (hE : E.ρ0.length = n) {sv : SV} {s : St} {Post : SV → List Ob → Gh → Prop} (keep : List Nat) (sv' : SV) (H' : List Ob) (hk : keepc n keep = true) (hs : subH keep s.H.length s.H keep H')
    (hv : sv = sv'.map (rn keep s.H.length)) (hp : Post sv' H' s.G) : Fin E Post sv s := by
  simp only [keepc, Bool.and_eq_true, decide_eq_true_eq] at hk
  exact fin_sel n (Nat.le_of_eq hE) keep sv' H' hk.1 (fun i hi => by simpa using List.all_eq_true.1 hk.2 i (by simpa using hi)) hs hv hp

def ltb (i k : Nat) : Bool := Nat.ble (i + 1) k
mutual
def bd (k : Nat) : SV → Bool
  | .v _ => true
  | .p i _ => ltb i k
  | .s i => ltb i k
  | .f _ a c => bds k a && bds k c
  | .agg xs => bds k xs
  | .tup xs => bds k xs
  | .lit _ => true
  | .dead => true
def bds (k : Nat) : List SV → Bool
  | [] => true
  | x :: xs => bd k x && bds k xs
end
def bdo (k : Nat) : List Ob → Bool
  | [] => true
  | .cells _ xs :: l => bds k xs && bdo k l
  | .row _ _ _ _ :: l => bdo k l
  | .lit _ _ xs :: l => bds k xs && bdo k l
  | .gone :: l => bdo k l

theorem rn_range {k N i : Nat} (h : ltb i k = true) : rn (List.range k) N i = some i := by
  have : i < k := by unfold ltb at h; exact Nat.le_of_ble_eq_true h
  simp [rn, nth_eq, this]
mutual
theorem bd_map {k N : Nat} : ∀ {x : SV}, bd k x = true → x.map (rn (List.range k) N) = x
  | .v _, _ => rfl
  | .p i o, h => by simp only [bd] at h; simp [SV.map, rn_range h]
  | .s i, h => by simp only [bd] at h; simp [SV.map, rn_range h]
  | .f fn a c, h => by simp only [bd, Bool.and_eq_true] at h; simp [SV.map, bds_map h.1, bds_map h.2]
  | .agg xs, h => by simp only [bd] at h; simp [SV.map, bds_map h]
  | .tup xs, h => by simp only [bd] at h; simp [SV.map, bds_map h]
  | .lit _, _ => rfl
  | .dead, _ => rfl
theorem bds_map {k N : Nat} : ∀ {xs : List SV}, bds k xs = true → maps (rn (List.range k) N) xs = xs
  | [], _ => rfl
  | x :: xs, h => by simp only [bds, Bool.and_eq_true] at h; simp [maps, bd_map h.1, bds_map h.2]
end
theorem bdo_map {k N : Nat} : ∀ {l : List Ob}, bdo k l = true → ∀ ob ∈ l, ob.map (rn (List.range k) N) = ob
  | [], _, ob, h => by simp at h
  | .cells T xs :: l, h, ob, hm => by
    simp only [bdo, Bool.and_eq_true] at h
    rcases List.mem_cons.1 hm with rfl | hm
    · simp [Ob.map, bds_map h.1]
    · exact bdo_map h.2 ob hm
  | .row e sz n xs :: l, h, ob, hm => by
    simp only [bdo] at h
    rcases List.mem_cons.1 hm with rfl | hm
    · rfl
    · exact bdo_map h ob hm
  | .lit T n xs :: l, h, ob, hm => by
    simp only [bdo, Bool.and_eq_true] at h
    rcases List.mem_cons.1 hm with rfl | hm
    · simp [Ob.map, bds_map h.1]
    · exact bdo_map h.2 ob hm
  | .gone :: l, h, ob, hm => by
    simp only [bdo] at h
    rcases List.mem_cons.1 hm with rfl | hm
    · rfl
    · exact bdo_map h ob hm

/-- The first k objects are handed back as they are. -/
theorem fin_id {E : Env} {n : Nat} (hE : E.ρ0.length = n) {sv : SV} {s : St} {Post : SV → List Ob → Gh → Prop} (k : Nat) (hn : Nat.ble n k = true) (hb : bdo k (s.H.take k) = true) (hl : Nat.beq (s.H.take k).length k = true) (hv : bd k sv = true)
    (hp : Post sv (s.H.take k) s.G) : Fin E Post sv s := by
  have hl' : (s.H.take k).length = k := Nat.eq_of_beq_eq_true hl
  have hmap := bdo_map (N := s.H.length) hb
  refine fin_sel n (Nat.le_of_eq hE) (List.range k) sv (s.H.take k) List.nodup_range (fun i hi => by have := Nat.le_of_ble_eq_true hn; rw [List.getElem?_range (by omega)]) ?_ (bd_map hv).symm hp
  have key : ∀ (j : Nat) (obs : List Ob), (∀ (i : Nat) ob, obs[i]? = some ob → (s.H.take k)[j + i]? = some ob) → subH (List.range k) s.H.length s.H (List.range' j obs.length) obs := by
    intro j obs
    induction obs generalizing j with
    | nil => intro _; exact trivial
    | cons ob obs ih =>
      intro h
      have h0 := h 0 ob (by simp)
      simp only [List.length_cons, List.range'_succ, subH]
      refine ⟨?_, ih (j + 1) fun i ob' hi => ?_⟩
      · have h0' : (s.H.take k)[j]? = some ob := by simpa using h0
        rw [hmap ob (List.mem_of_getElem? h0'), nth_eq]
        rw [List.getElem?_take] at h0'
        split at h0'
        · exact h0'
        · simp at h0'
      · have := h (i + 1) ob' (by simpa using hi)
        rwa [show j + (i + 1) = j + 1 + i by omega] at this
  have := key 0 (s.H.take k) (fun i ob hi => by rw [Nat.zero_add]; exact hi)
  rw [hl', ← List.range_eq_range'] at this
  exact this

/-- Behind a call that was handed cells alone. -/
theorem callEnd_cells {m : List Nat} {s : St} {sv : SV} {H' : List Ob} {G' : Gh} {K : List Nat → SV → St → Prop} (hk : killOf s.H m = [])
    (h : K m (sv.map (rn m s.H.length)) ⟨s.fr, setAll s.H m (obmaps (rn m s.H.length) H') ++ (obmaps (rn m s.H.length) H').drop m.length, G'⟩) : callEnd m s sv H' G' K := by
  rw [callEnd_eq, hk, maps_id0 km_nil0, obmaps_id0 km_nil0]
  exact h

/-- All objects are handed back as they are. -/
theorem fin_all {E : Env} {Post : SV → List Ob → Gh → Prop} {sv : SV} {s : St} (hp : Post sv s.H s.G) : Fin E Post sv s :=
  ⟨fun ρ w v hA hr => ⟨ρ, s.H, s.G, sv, hp, hA, hr⟩⟩

/-- A frame of n slots of which some are known. -/
def mkF (n : Nat) (l : List (Nat × SV)) : List SV := go (List.replicate n .dead) l
where go : List SV → List (Nat × SV) → List SV
  | fr, [] => fr
  | fr, (i, x) :: l => go (fr.set i x) l

section
variable {E : Env} {ρ : List Value} {H : List Ob} {G : Gh} {w : World}
/-- At the end of a walk: object i is done. -/
theorem fin_done {Post : SV → List Ob → Gh → Prop} {sv : SV} {s : St} (i : Nat) {e sz n : Nat} {xs : List Value} (hH : nth s.H i = some (.row e sz n xs)) (h1 : ∀ v ∈ xs, v.oneCell' = true)
    (h : ∀ A c G', Ghe s.G G' → Sl G' A n c sz xs → Fin E Post (sv.fz i (.slice A n c)) ⟨s.fr, (s.H.map (·.fz i (.slice A n c))).set i .gone, G'⟩) : Fin E Post sv s := by
  refine ⟨fun ρ w v hA hr => ?_⟩
  rw [nth_eq] at hH
  obtain ⟨A, c, G', hρ, hg, hsl, hA'⟩ := hA.done hH h1
  exact (h A c G' hg hsl).out _ w v hA' (hr.fz_ hρ _)

/-- At the end of a walk: object i is done, and nobody knew of its memory. -/
theorem fin_done' {Post : SV → List Ob → Gh → Prop} {sv : SV} {s : St} (i : Nat) {e sz n : Nat} {xs : List Value} (hH : nth s.H i = some (.row e sz n xs)) (h1 : ∀ v ∈ xs, v.oneCell' = true)
    (h : ∀ A c G', Ghe s.G G' → Fresh s.G A → Sl G' A n c sz xs → Fin E Post (sv.fz i (.slice A n c)) ⟨s.fr, (s.H.map (·.fz i (.slice A n c))).set i .gone, G'⟩) : Fin E Post sv s := by
  refine ⟨fun ρ w v hA hr => ?_⟩
  rw [nth_eq] at hH
  obtain ⟨A, c, G', hρ, hg, hfr, _, hsl, hA'⟩ := hA.done4 hH h1
  exact (h A c G' hg hfr hsl).out _ w v hA' (hr.fz_ hρ _)

/-- At a call: object i is done. -/
theorem call_done {P : Program} {f : FuncId} {args : List SV} {s : St} {K : List Nat → SV → St → Prop} (i : Nat) {e sz n : Nat} {xs : List Value} (hH : nth s.H i = some (.row e sz n xs)) (h1 : ∀ v ∈ xs, v.oneCell' = true)
    (h : ∀ A c G', Ghe s.G G' → Sl G' A n c sz xs → CallVC P E f (fzs i (.slice A n c) args) ⟨fzs i (.slice A n c) s.fr, (s.H.map (·.fz i (.slice A n c))).set i .gone, G'⟩ fun T => K (i :: T))
    (he : ∀ (args : Array Value) (w : World), (callFunc f args).run P w = .ok (.enter f args) w) : CallVC P E f args s K := by
  refine ⟨he, fun ρ w ys hA hargs => ?_⟩
  rw [nth_eq] at hH
  obtain ⟨A, c, G', hρ, hg, hsl, hA'⟩ := hA.done hH h1
  refine ((h A c G' hg hsl).calls _ w ys hA' (hargs.fz_ hρ _)).mono fun e w' hh => ?_
  rcases hh with ⟨v, T, sv, s', ρ', rfl, hk, hA2, hr, hfr, hfp⟩ | hp
  case inr => exact .inr hp
  refine .inl ⟨v, i :: T, sv, s', ρ', rfl, hk, hA2, hr, fun zs hz => hfr zs (hz.fz_ hρ _), fun b hb hT => ?_, fun j x hj hx => ?_, fun b o hb => hfp.gh b o (hg b o hb)⟩
  · refine hfp.blk b hb fun j hj y hy => ?_
    by_cases hij : i = j
    · subst hij
      rw [List.getElem?_set_self (List.getElem?_eq_some_iff.1 hρ).1] at hy
      simp at hy; subst hy; simp [blkOf]
    · rw [List.getElem?_set_ne hij] at hy
      exact hT j (List.mem_cons_of_mem _ hj) y hy
  · have hij : i ≠ j := fun e => hj (by simp [e])
    exact hfp.ids j x (fun hh => hj (List.mem_cons_of_mem _ hh)) (by rw [List.getElem?_set_ne hij]; exact hx)
end
end Go.SX

namespace Go.SX
open Go.RowKit
set_option linter.unusedVariables false

def heapG (W : World) : Gh := fun b => W.heap[b]?
theorem Ag.start (W : World) : Ag (Fr W [] (heapG W)) [] [] (heapG W) W :=
  ⟨rfl, fun i ob x h => by simp at h, fun i j x y b h => by simp at h, fun i x b h => by simp at h, fun b o h => h, fun _ _ _ => rfl, Nat.le_refl _, rfl, rfl, rfl, fun i a h => h, fun b o h => h, fun b o h => .inl h⟩
theorem Ct.law {P : Program} {f : FuncId} {args : List SV} {W : World} {Post : SV → List Ob → Gh → Prop} (h : Ct P f args [] (heapG W) Post) {ys : List Value} (hargs : Rvs [] args ys) :
    Calls P f ys.toArray W fun e W' => ∃ v sv H' G' ρ', e = .returned v ∧ Post sv H' G' ∧ Rv ρ' sv v ∧ Below W.heap.size W W' := by
  refine (h.calls [] W ys (Ag.start W) hargs).mono fun e w' hh => ?_
  obtain ⟨v, sv, H', G', ρ', rfl, hp, hA, hr⟩ := hh
  refine ⟨v, sv, H', G', ρ', rfl, hp, hr, hA.os, hA.tape, hA.output, hA.size, fun k hk => ?_⟩
  exact hA.frame k hk (fun ⟨i, x, hx, _⟩ => by simp at hx)
/-- A slice of integers that lies in the world. -/
theorem sl_ints {W : World} {a : Option Addr} {len cap : Nat} {zs : List Int} {k : IntKind} (h : (a = none ∧ len = 0 ∧ cap = 0 ∧ zs = []) ∨
    ∃ x, a = some x ∧ len ≤ cap ∧ cap ≤ maxLen ∧ len ≤ zs.length ∧ (∀ i, i < zs.length → W.cell? (x.add i) = some (.int k (zs.getD i 0))) ∧ ∀ n ∈ zs, (Lit.int k n).wf = true) :
    Sl (heapG W) a len cap 1 ((zs.take len).map (.int k)) ∧ (zs.take len).length = len ∧ ∀ n ∈ zs.take len, (Lit.int k n).wf = true := by
  rcases h with ⟨rfl, rfl, rfl, rfl⟩ | ⟨x, rfl, h1, h2, h3, h4, h5⟩
  · exact ⟨⟨rfl, Nat.le_refl _, by decide, fun ad h => by simp at h, fun _ => ⟨rfl, rfl⟩, fun v hv => by simp at hv⟩, rfl, fun n hn => by simp at hn⟩
  · refine ⟨⟨by simp [h3], h1, by simpa [maxLen] using h2, fun ad had j v hj => ?_, fun h => by simp at h, fun v hv => ?_⟩, by simp [h3], fun n hn => h5 n (List.mem_of_mem_take hn)⟩
    · simp at had; subst had
      rw [List.getElem?_map] at hj
      obtain ⟨n, hn, rfl⟩ := Option.map_eq_some_iff.1 hj
      rw [List.getElem?_take] at hn
      split at hn
      · have hlt := (List.getElem?_eq_some_iff.1 hn).1
        have := h4 j hlt
        rw [List.getD_eq_getElem?_getD, hn] at this
        exact this
      · simp at hn
    · obtain ⟨n, _, rfl⟩ := List.mem_map.1 hv
      rfl
end Go.SX
