/- SXc: SX9, SX10, SX11, SX12, SX13, SX14, SXG, SXO, SXK, SXQ, SXR, SXP, SXT, Kp1 in one text. -/
import Derived.Test.YtchebkpcgglllaaGreatSXa
import Derived.Below
import Derived.ChangeArms
import Derived.ChangeSame
import Derived.Deep.Slices
import Derived.DataReads
import Derived.Recover
namespace Go.SX
set_option linter.unusedVariables false
set_option linter.unusedSimpArgs false

def anc (ops : Array Oper) : Nat → Nat → Nat → Bool
  | 0, _, _ => false
  | n + 1, j, k => match ops[j]? with
    | some o => o.after.any fun e => Region.binds .any e && (e.on == k || anc ops n e.on k)
    | none => false

def Closed (ops : Array Oper) (listed : Array Bool) : Prop :=
  ∀ j o, ops[j]? = some o → listed.getD j false = true → ∀ e ∈ o.after, Region.binds .any e = true → listed.getD e.on false = true

theorem anc_listed {ops : Array Oper} {listed : Array Bool} (hc : Closed ops listed) : ∀ (n j k : Nat), (∀ o, ops[j]? = some o → ∀ e ∈ o.after, Region.binds .any e = true → listed.getD e.on false = true) →
    anc ops n j k = true → listed.getD k false = true
  | 0, j, k, _, h => by simp [anc] at h
  | n + 1, j, k, hj, h => by
    simp only [anc] at h
    split at h
    case h_2 => simp at h
    rename_i o ho
    obtain ⟨e, he, hb⟩ := Array.any_eq_true'.1 h
    simp only [Bool.and_eq_true, Bool.or_eq_true, beq_iff_eq] at hb
    have hl := hj o ho e he hb.1
    rcases hb.2 with h1 | h1
    · rw [← h1]; exact hl
    · exact anc_listed hc n e.on k (fun o' ho' => hc e.on o' ho' hl) h1

abbrev Rl := List (Nat × (World → Prop))
def Pres (ops : Array Oper) (R : Rl) (i : Nat) (w w' : World) : Prop := ∀ r ∈ R, anc ops ops.size i r.1 = false → r.2 w → r.2 w'

section
variable {P : Program} {ops : Array Oper} {Q : Exit → Act → World → Prop}

def wpAnyO (P : Program) (ops : Array Oper) (Q : Exit → Act → World → Prop) (R : Rl) : Nat → Array Bool → Act → World → Prop
  | 0, listed, a, w => Region.ready .any ops listed = [] ∧ Q .normal a w
  | fuel + 1, listed, a, w =>
    (Region.ready .any ops listed = [] → Q .normal a w) ∧
    ∀ i ∈ Region.ready .any ops listed, wpOp P ops Q i (fun a' w' => Pres ops R i w w' ∧ wpAnyO P ops Q R fuel (listed.setIfInBounds i true) a' w') a w

theorem wpAnyO_sub {R R' : Rl} (hR : ∀ r ∈ R', r ∈ R) : ∀ (fuel : Nat) (listed : Array Bool) (a : Act) (w : World), wpAnyO P ops Q R fuel listed a w → wpAnyO P ops Q R' fuel listed a w
  | 0, _, _, _, h => h
  | fuel + 1, listed, a, w, h => ⟨h.1, fun i hi => wpOp_mono (fun a' w' hh => ⟨fun r hr => hh.1 r (hR r hr), wpAnyO_sub hR fuel _ _ _ hh.2⟩) (h.2 i hi)⟩

theorem wpAnyO_any {R : Rl} : ∀ (fuel : Nat) (listed : Array Bool) (a : Act) (w : World), wpAnyO P ops Q R fuel listed a w → wpAny P .any ops Q fuel listed a w
  | 0, _, _, _, h => h
  | fuel + 1, listed, a, w, h => ⟨h.1, fun i hi => wpOp_mono (fun a' w' hh => wpAnyO_any fuel _ _ _ hh.2) (h.2 i hi)⟩

def Alike (ops : Array Oper) (oi : Oper) (a a' : Act) : Prop := execOp a'.eval oi = execOp a.eval oi ∧ Region.wanted oi (yielded ops a'.tmps) = Region.wanted oi (yielded ops a.tmps)

theorem wpOp_put' {j : Nat} {oi oj : Oper} {v : Value} (hj : ops[j]? = some oj) (hap : oi.apart ops oj = true)
    (hsi : ∀ cs b, oi.op ≠ .select cs b) (hsj : ∀ cs b, oj.op ≠ .select cs b)
    (hQ : ∀ c a w, Q (.panic c) (a.put oi.dst v) w → Q (.panic c) a w) {K : Act → World → Prop} {a : Act} {w : World}
    (h : wpOp P ops Q j K (a.put oi.dst v) w) :
    wpOp P ops Q j (fun a' w' => Alike ops oi a a' ∧ K (a'.put oi.dst v) w') a w := by
  obtain ⟨h1, h2, h3⟩ := Oper.apart_spec hap
  have keep : ∀ u, Alike ops oi a (a.put oj.dst u) := fun u => ⟨execOp_put oi hsi a oj.dst u h3, wanted_put oi a oj.dst u h3⟩
  have keepD : ∀ d u, Alike ops oi a (({ a with defers := d :: a.defers } : Act).put oj.dst u) := fun d u =>
    ⟨(execOp_put oi hsi { a with defers := d :: a.defers } oj.dst u h3), (wanted_put oi { a with defers := d :: a.defers } oj.dst u h3)⟩
  unfold wpOp at *
  simp only [hj] at *
  rw [wanted_put oj a oi.dst v h1] at h
  split
  · rename_i hw
    simp only [hw, if_true] at h
    rcases h with h | ⟨hasks, hlets⟩
    case inr => exact .inr ⟨by unfold Oper.asks at *; rw [execOp_put oj hsj a oi.dst v h1] at hasks; exact hasks, hlets⟩
    refine .inl ?_
    unfold Oper.wp at *
    rw [execOp_put oj hsj a oi.dst v h1] at h
    generalize (execOp a.eval oj).run P w = r at *
    cases r with
    | ok n w' =>
      cases n <;> simp only [Oper.upon] at h ⊢
      case value u => exact ⟨keep u, by rw [← Act.put_comm a v u h2]; exact h⟩
      case skip => exact ⟨keep _, by rw [← Act.put_comm a v undef h2]; exact h⟩
      case defer d =>
        refine ⟨keepD d _, ?_⟩
        rw [← Act.put_comm _ v undef h2, ← Act.put_defers]
        exact h
      case enter f args =>
        refine Calls.mono h fun e w'' he => ?_
        cases e with
        | returned u => exact ⟨keep u, by rw [← Act.put_comm a v u h2]; exact he⟩
        | panicked c => exact hQ _ _ _ he
        | outgrown => exact he
      case row row args => exact Rows.mono h fun u w'' he => ⟨keep u, by rw [← Act.put_comm a v u h2]; exact he⟩
    | halt x w' =>
      cases x <;> simp only [Oper.upon] at h ⊢
      case panic u => exact hQ _ _ _ h
  · rename_i hw
    simp only [hw] at h
    exact ⟨keep _, by rw [← Act.put_comm a v undef h2]; exact h⟩

/-- What a quiet operation yields wherever I holds. -/
def YieldsI (P : Program) (ops : Array Oper) (o : Oper) (v : Value) (I : World → Prop) (a : Act) : Prop :=
  (Region.wanted o (yielded ops a.tmps) = true ∧ ∀ w, I w → (execOp a.eval o).run P w = .ok (.value v) w) ∨
  (Region.wanted o (yielded ops a.tmps) = false ∧ v = undef)
theorem YieldsI.alike {o : Oper} {v : Value} {I : World → Prop} {a a' : Act} (hy : YieldsI P ops o v I a) (h : Alike ops o a a') : YieldsI P ops o v I a' := by
  unfold YieldsI at *
  rw [h.1, h.2]
  exact hy
theorem YieldsI.wpOp {i : Nat} {o : Oper} {v : Value} {I : World → Prop} {a : Act} (hi : ops[i]? = some o) (hy : YieldsI P ops o v I a)
    {K : Act → World → Prop} {w : World} (hI : I w) (h : K (a.put o.dst v) w) : wpOp P ops Q i K a w := by
  unfold Go.wpOp
  simp only [hi]
  rcases hy with ⟨hw, hv⟩ | ⟨hw, rfl⟩
  · simp only [hw, if_true, Oper.wp, hv w hI, Oper.upon]; exact .inl h
  · simp only [hw, Bool.false_eq_true, if_false]; exact h

theorem closed_set {listed : Array Bool} (hc : Closed ops listed) {i : Nat} (hi : i ∈ Region.ready .any ops listed) : Closed ops (listed.setIfInBounds i true) := by
  intro j o ho hl e he hb
  by_cases hij : i = j
  · subst hij
    obtain ⟨_, o', ho', hall⟩ := mem_ready.1 hi
    rw [ho] at ho'; simp at ho'; subst ho'
    exact getD_set_true (hall e he hb)
  · rw [getD_set_ne false hij] at hl
    exact getD_set_true (hc j o ho hl e he hb)

theorem wpAnyO_take {i : Nat} {oi : Oper} {v : Value} {I : World → Prop} {R : Rl} (hi : ops[i]? = some oi) (hsel : ∀ (j : Nat) (o : Oper) cs b, ops[j]? = some o → o.op ≠ .select cs b)
    (hQ : ∀ c a w, Q (.panic c) (a.put oi.dst v) w → Q (.panic c) a w) :
    ∀ (fuel : Nat) (listed : Array Bool) (a : Act) (w : World), Closed ops listed →
      (∀ j oj, ops[j]? = some oj → j ≠ i → listed.getD j true = false → (∀ e ∈ oj.after, Region.binds .any e = true → e.on ≠ i) → oi.apart ops oj = true) →
      i ∈ Region.ready .any ops listed → YieldsI P ops oi v I a → I w →
      wpAnyO P ops Q ((i, I) :: R) fuel (listed.setIfInBounds i true) (a.put oi.dst v) w → wpAnyO P ops Q R (fuel + 1) listed a w := by
  intro fuel
  induction fuel with
  | zero =>
    intro listed a w hcl _ hr hy hIw H
    refine ⟨fun h => (by rw [h] at hr; cases hr), fun j hj => ?_⟩
    by_cases hji : j = i
    · subst hji; exact hy.wpOp hi hIw ⟨fun _ _ _ h => h, wpAnyO_sub (fun r hr => List.mem_cons_of_mem _ hr) 0 _ _ _ H⟩
    · have := ready_mono hj hji
      rw [H.1] at this
      cases this
  | succ fuel ih =>
    intro listed a w hcl hfree hr hy hIw H
    refine ⟨fun h => (by rw [h] at hr; cases hr), fun j hj => ?_⟩
    by_cases hji : j = i
    · subst hji; exact hy.wpOp hi hIw ⟨fun _ _ _ h => h, wpAnyO_sub (fun r hr => List.mem_cons_of_mem _ hr) _ _ _ _ H⟩
    · have h1 := H.2 j (ready_mono hj hji)
      obtain ⟨hjun, oj, hoj, hall⟩ := mem_ready.1 hj
      have hiun := (mem_ready.1 hr).1
      have hif : listed.getD i false = false := by
        rcases Nat.lt_or_ge i listed.size with h' | h'
        · simpa [h'] using hiun
        · simp [Array.getElem?_eq_none h']
      have hnot : ∀ e ∈ oj.after, Region.binds .any e = true → e.on ≠ i := fun e he hb heq => by
        have h1 := hall e he hb
        rw [heq, hif] at h1; cases h1
      have hanc : anc ops ops.size j i = false := by
        cases hh : anc ops ops.size j i with
        | false => rfl
        | true =>
          have := anc_listed hcl ops.size j i (fun o ho e he hb => by rw [hoj] at ho; simp at ho; subst ho; exact hall e he hb) hh
          rw [hif] at this; cases this
      have h2 := wpOp_put' hoj (hfree j oj hoj hji hjun hnot) (fun cs b => hsel i oi cs b hi) (fun cs b => hsel j oj cs b hoj) hQ h1
      have hfree' : ∀ k ok, ops[k]? = some ok → k ≠ i → (listed.setIfInBounds j true).getD k true = false →
          (∀ e ∈ ok.after, Region.binds .any e = true → e.on ≠ i) → oi.apart ops ok = true := fun k ok hk hki hun hno => by
        refine hfree k ok hk hki ?_ hno
        by_cases hjk : j = k
        · subst hjk; exact hjun
        · rw [getD_set_ne true hjk] at hun; exact hun
      refine wpOp_mono (fun a' w' h3 => ⟨fun r hr' => h3.2.1 r (List.mem_cons_of_mem _ hr'), ?_⟩) h2
      refine ih (listed.setIfInBounds j true) a' w' (closed_set hcl hj) hfree' (ready_mono hr (Ne.symm hji)) (hy.alike h3.1) (h3.2.1 (i, I) (by simp) hanc hIw) ?_
      rw [Array.setIfInBounds_comm _ _ hji]
      exact h3.2.2

theorem wpAnyO_only {i : Nat} {R : Rl} {fuel : Nat} {listed : Array Bool} {a : Act} {w : World} (hr : Region.ready .any ops listed = [i])
    (h : wpOp P ops Q i (fun a' w' => Pres ops R i w w' ∧ wpAnyO P ops Q R fuel (listed.setIfInBounds i true) a' w') a w) : wpAnyO P ops Q R (fuel + 1) listed a w :=
  ⟨fun h0 => (by rw [hr] at h0; cases h0), fun j hj => by rw [hr] at hj; simp at hj; subst hj; exact h⟩

theorem wpAnyO_done {R : Rl} {listed : Array Bool} {a : Act} {w : World} (hr : Region.ready .any ops listed = []) (h : Q .normal a w) : ∀ fuel, wpAnyO P ops Q R fuel listed a w
  | 0 => ⟨hr, h⟩
  | _ + 1 => ⟨fun _ => h, by rw [hr]; simp⟩
end
end Go.SX

namespace Go.SX
set_option linter.unusedVariables false
set_option linter.unusedSimpArgs false
section
variable {E : Env} {ρ : List Value} {H : List Ob} {G : Gh} {w : World}

abbrev Plan := List (Nat × List Nat)
/-- A plan: steps; where several effects are ready at once, two ways of going on. -/
inductive PT where
  | nil
  | cons (i : Nat) (ks : List Nat) (pl : PT)
  | alt (a b : PT)
abbrev Plan2 := PT
def PT.len : PT → Nat
  | .nil => 0
  | .cons _ _ pl => pl.len + 1
  | .alt a b => max a.len b.len
def PT.heads : PT → List Nat
  | .nil => []
  | .cons i _ _ => [i]
  | .alt a b => a.heads ++ b.heads
mutual
def planOk (ops : Array Oper) : PT → Array Bool → List Nat → Bool
  | .nil, listed, _ => (Region.ready .any ops listed).isEmpty
  | .cons i ks pl, listed, rel => match ops[i]? with
    | some o => if isEff o.op then Region.ready .any ops listed == [i] && rel.all ks.contains && ks.all (anc ops ops.size i) && planOk ops pl (listed.setIfInBounds i true) ks
      else (Region.ready .any ops listed).contains i && Region.free .any ops listed i && planOk ops pl (listed.setIfInBounds i true) rel
    | none => false
  | .alt a b, listed, rel => !(Region.ready .any ops listed).isEmpty && (Region.ready .any ops listed).all (a.heads ++ b.heads).contains && altOk ops a listed rel && altOk ops b listed rel
/-- The plan of an alternative: its first step is one of several effects. -/
def altOk (ops : Array Oper) : PT → Array Bool → List Nat → Bool
  | .nil, _, _ => false
  | .cons i ks pl, listed, rel => match ops[i]? with
    | some o => isEff o.op && rel.all ks.contains && ks.all (anc ops ops.size i) && planOk ops pl (listed.setIfInBounds i true) ks
    | none => false
  | .alt a b, listed, rel => altOk ops a listed rel && altOk ops b listed rel
end
def drawOk (ops : Array Oper) (pl : Plan2) : Bool := Region.noSelect ops && Nat.ble pl.len ops.size && planOk ops pl (Array.replicate ops.size false) []

def memN : Nat → List Nat → Bool
  | _, [] => false
  | k, x :: xs => match Nat.beq k x with
    | true => true
    | false => memN k xs
theorem memN_iff {k : Nat} : ∀ {l : List Nat}, memN k l = true ↔ k ∈ l
  | [] => by simp [memN]
  | x :: xs => by
    simp only [memN, List.mem_cons]
    split
    · rename_i h; simp [Nat.eq_of_beq_eq_true h]
    · rename_i h
      have : k ≠ x := fun e => by subst e; simp at h
      simp [this, memN_iff]
def disj : List Nat → List Nat → Bool
  | [], _ => true
  | x :: xs, T => match memN x T with
    | true => false
    | false => disj xs T
theorem disj_ok : ∀ {xs T : List Nat}, disj xs T = true → ∀ x ∈ xs, x ∉ T
  | [], T, _ => by simp
  | y :: ys, T, h => by
    simp only [disj] at h
    split at h
    · simp at h
    · rename_i hm
      intro x hx
      rcases List.mem_cons.1 hx with rfl | hx
      · intro hT; rw [memN_iff.2 hT] at hm; simp at hm
      · exact disj_ok h x hx
def chkR : Plan → List Nat → List Nat → Bool
  | [], _, _ => true
  | (k, rd) :: R, ks, T => match memN k ks with
    | true => chkR R ks T
    | false => match disj rd T with
      | true => chkR R ks T
      | false => false
theorem chkR_ok : ∀ {R : Plan} {ks T : List Nat}, chkR R ks T = true → ∀ k rd, (k, rd) ∈ R → k ∉ ks → ∀ x ∈ rd, x ∉ T
  | [], _, _, _ => by simp
  | (k0, rd0) :: R, ks, T, h => by
    simp only [chkR] at h
    intro k rd hm hk
    split at h
    · rename_i h0
      rcases List.mem_cons.1 hm with he | hm
      · simp at he; exact absurd (by rw [he.1]; exact memN_iff.1 h0) hk
      · exact chkR_ok h k rd hm hk
    · split at h
      · rename_i h1
        rcases List.mem_cons.1 hm with he | hm
        · simp at he; rw [he.2]; exact disj_ok h1
        · exact chkR_ok h k rd hm hk
      · simp at h
def dropR : Plan → List Nat → Plan
  | [], _ => []
  | (k, rd) :: R, ks => match memN k ks with
    | true => dropR R ks
    | false => (k, rd) :: dropR R ks
theorem dropR_ok : ∀ {R : Plan} {ks : List Nat} {k : Nat} {rd : List Nat}, (k, rd) ∈ R → k ∉ ks → (k, rd) ∈ dropR R ks
  | [], _, _, _, h, _ => by simp at h
  | (k0, rd0) :: R, ks, k, rd, h, hk => by
    simp only [dropR]
    rcases List.mem_cons.1 h with he | hm
    · simp at he
      split
      · rename_i h0; exact absurd (by rw [he.1]; exact memN_iff.1 h0) hk
      · simp [he]
    · split
      · exact dropR_ok hm hk
      · exact List.mem_cons_of_mem _ (dropR_ok hm hk)

def sxPl2 (P : Program) (E : Env) (all : List Oper) : PT → Plan → (St → Prop) → St → Prop
  | .nil, _, K, s => K s
  | .cons i ks pl, R, K, s => match nth all i with
    | some o => sxGuard all o s
      (fun s => match isEff o.op with
        | true => effOp P E o s fun T v s' => match chkR R ks T with
          | true => putS o.dst v s' (sxPl2 P E all pl (dropR R ks) K)
          | false => Bad o
        | false => quOp P o s fun v => putS o.dst v s (sxPl2 P E all pl ((i, rdOf s o) :: R) K))
      (fun s => match isEff o.op with
        | true => putS o.dst (.v undef) s (sxPl2 P E all pl (dropR R ks) K)
        | false => putS o.dst (.v undef) s (sxPl2 P E all pl ((i, []) :: R) K))
    | none => False
  | .alt a b, R, K, s => sxPl2 P E all a R K s ∧ sxPl2 P E all b R K s

def Conn (ρ : List Value) (G : Gh) (R : Plan) (rel : List Nat) (r : Nat × (World → Prop)) : Prop :=
  r.1 ∈ rel ∨ ∃ rd, (r.1, rd) ∈ R ∧ ∀ w1 w2 : World, (∀ b, ((∃ o, G b = some o) ∨ ∃ i ∈ rd, ∃ x, ρ[i]? = some x ∧ blkOf x = some b) → w2.heap[b]? = w1.heap[b]?) → r.2 w1 → r.2 w2

theorem pres_eff {ops : Array Oper} (hA : Ag E ρ H G w) {ρ' : List Value} {G' : Gh} {w' : World} {T ks rel : List Nat} {R : Plan} {RS : Rl} {i : Nat} (hfp : Fp ρ ρ' G G' T w w') (hc : chkR R ks T = true)
    (hks : ks.all (anc ops ops.size i) = true) (hrel : rel.all ks.contains = true) (hRS : ∀ r ∈ RS, Conn ρ G R rel r) :
    Pres ops RS i w w' ∧ ∀ r ∈ RS, Conn ρ' G' (dropR R ks) ks r := by
  have hanc : ∀ k ∈ ks, anc ops ops.size i k = true := fun k hk => List.all_eq_true.1 hks k hk
  have hin : ∀ k ∈ rel, k ∈ ks := fun k hk => by simpa using List.all_eq_true.1 hrel k hk
  constructor
  · intro r hr hno hI
    rcases hRS r hr with h | ⟨rd, hm, himp⟩
    · rw [hanc _ (hin _ h)] at hno; simp at hno
    · by_cases hk : r.1 ∈ ks
      · rw [hanc _ hk] at hno; simp at hno
      · have hd := chkR_ok hc _ _ hm hk
        refine himp w w' (fun b hb => ?_) hI
        rcases hb with ⟨o, ho⟩ | ⟨j, hj, x, hx, hxb⟩
        · have hlt : b < w.heap.size := by have := hA.ext b o ho; rw [Array.getElem?_eq_some_iff] at this; exact this.1
          refine hfp.blk b hlt fun q hq x hx hxb => ?_
          have := (hA.own q x b hx hxb).2.1
          rw [ho] at this; simp at this
        · refine hfp.blk b (hA.own j x b hx hxb).1 fun q hq y hy hyb => ?_
          have := hA.apart j q x y b hx hy hxb hyb
          subst this
          exact hd j hj hq
  · intro r hr
    rcases hRS r hr with h | ⟨rd, hm, himp⟩
    · exact .inl (hin _ h)
    · by_cases hk : r.1 ∈ ks
      · exact .inl hk
      · have hd := chkR_ok hc _ _ hm hk
        refine .inr ⟨rd, dropR_ok hm hk, fun w1 w2 hb hI => himp w1 w2 (fun b hb' => hb b ?_) hI⟩
        rcases hb' with ⟨o, ho⟩ | ⟨j, hj, x, hx, hxb⟩
        · exact .inl ⟨o, hfp.gh b o ho⟩
        · exact .inr ⟨j, hj, x, hfp.ids j x (hd j hj) hx, hxb⟩

theorem Fp.refl (T : List Nat) : Fp ρ ρ G G T w w := ⟨fun _ _ _ => rfl, fun _ _ _ h => h, fun _ _ h => h⟩

theorem chkR_nil : ∀ (R : Plan) (ks : List Nat), chkR R ks [] = true
  | [], _ => rfl
  | (k, rd) :: R, ks => by
    simp only [chkR]
    split
    · exact chkR_nil R ks
    · have : ∀ l : List Nat, disj l [] = true := by
        intro l
        induction l with
        | nil => rfl
        | cons x xs ih => simp [disj, memN, ih]
      rw [this]; exact chkR_nil R ks

theorem altOk_len (ops : Array Oper) : ∀ (q : PT) (listed : Array Bool) (rel : List Nat), altOk ops q listed rel = true → 0 < q.len
  | .nil, _, _, h => by simp [altOk] at h
  | .cons _ _ _, _, _, _ => by simp [PT.len]
  | .alt a b, listed, rel, h => by
    simp only [altOk, Bool.and_eq_true] at h
    have := altOk_len ops a listed rel h.1
    simp only [PT.len]; omega
mutual
theorem sxPl2_ok {P : Program} {ops : Array Oper} {Q : Exit → Act → World → Prop} (hsel : ∀ (j : Nat) (o : Oper) cs b, ops[j]? = some o → o.op ≠ .select cs b)
    (hQ : ∀ c a d v w, E.dOk d → Q (.panic c) (Act.put a d v) w → Q (.panic c) a w) {K : St → Prop} (hw0 : ∀ o ∈ ops, E.dOk o.dst)
    (hP : ∀ x H' G', E.Pan x H' G' → ∀ ρ' a' w', Ag E ρ' H' G' w' → E.Kp a' → Q (.panic [{ v := x, recovered := false }]) a' w')
    (hK : ∀ s', K s' → ∀ ρ' a' w', Ag E ρ' s'.H s'.G w' → Rvs ρ' s'.fr a'.tmps.toList → E.Kp a' → Q .normal a' w') :
    ∀ (pl : PT) (R : Plan) (RS : Rl) (listed : Array Bool) (rel : List Nat) (fuel : Nat) {s : St} {a : Act} {w : World} {ρ : List Value}, pl.len ≤ fuel →
    planOk ops pl listed rel = true → Closed ops listed → (∀ r ∈ RS, Conn ρ s.G R rel r) →
    sxPl2 P E ops.toList pl R K s → Ag E ρ s.H s.G w → Rvs ρ s.fr a.tmps.toList → E.Kp a → wpAnyO P ops Q RS fuel listed a w
  | .nil, R, RS, listed, rel, fuel, s, a, w, ρ, _, hp, _, _, hS, hA, hF, hd => by
    simp only [planOk, List.isEmpty_iff] at hp
    simp only [sxPl2] at hS
    exact wpAnyO_done hp (hK s hS ρ a w hA hF hd) fuel
  | .cons i ks pl, R, RS, listed, rel, 0, s, a, w, ρ, hl, hp, hcl, hRS, hS, hA, hF, hd => by simp [PT.len] at hl
  | .cons i ks pl, R, RS, listed, rel, fuel + 1, s, a, w, ρ, hl, hp, hcl, hRS, hS, hA, hF, hd => by
    have hl' : pl.len ≤ fuel := by simpa [PT.len] using hl
    simp only [planOk] at hp
    split at hp
    case h_2 => simp at hp
    rename_i o ho
    simp only [sxPl2, nth_eq] at hS
    have ho' : ops.toList[i]? = some o := by simpa using ho
    rw [ho'] at hS
    simp only at hS
    obtain ⟨s1, h1, h2, h3, hw⟩ := guard_ok hS hF
    simp only [Array.toArray_toList] at hw
    rw [← h1, ← h2] at hA
    rw [← h2] at hRS
    have hd' : ∀ v, E.Kp (a.put o.dst v) := fun v => hd.put (hw0 o (Array.mem_of_getElem? ho)) v
    by_cases he : isEff o.op = true
    · simp only [he, if_true, Bool.and_eq_true] at hp
      obtain ⟨⟨⟨hr, hrel⟩, hks⟩, hp'⟩ := hp
      have hr' : Region.ready .any ops listed = [i] := by simpa using hr
      have hcl' := closed_set hcl (i := i) (by rw [hr']; simp)
      refine wpAnyO_only hr' ?_
      unfold wpOp
      simp only [ho]
      rcases hw with ⟨hw, hx⟩ | ⟨hw, hx⟩
      · rw [if_pos hw]
        refine .inl ?_
        rw [he] at hx
        refine eff_ok (ρ := ρ) (fun T sv s' hk ρ' v w' hA' hF' hrv hfp => ?_) (fun x H' G' ρ' w' hp hA' => hP x H' G' hp ρ' a w' hA' hd) hx hA h3
        split at hk
        case h_2 => exact hk.no.elim
        rename_i hc
        obtain ⟨s2, hk2, e1, e2, hF2⟩ := putS_ok hk hF' hrv
        obtain ⟨hpres, hRS'⟩ := pres_eff hA hfp hc hks hrel hRS
        refine ⟨hpres, sxPl2_ok hsel hQ hw0 hP hK pl (dropR R ks) RS _ ks fuel hl' hp' hcl' ?_ hk2 (by rw [e1, e2]; exact hA') hF2 (hd' v)⟩
        rw [e2]; exact hRS'
      · rw [if_neg (by simp [hw])]
        rw [he] at hx
        obtain ⟨s2, hk2, e1, e2, hF2⟩ := putS_ok hx h3 (v := undef) (by simp [Rv])
        obtain ⟨hpres, hRS'⟩ := pres_eff (i := i) (ops := ops) hA (Fp.refl []) (chkR_nil R ks) hks hrel hRS
        refine ⟨hpres, sxPl2_ok hsel hQ hw0 hP hK pl (dropR R ks) RS _ ks fuel hl' hp' hcl' ?_ hk2 (by rw [e1, e2]; exact hA) hF2 (hd' _)⟩
        rw [e2]; exact hRS'
    · have he' : isEff o.op = false := by simpa using he
      simp only [he', Bool.false_eq_true, if_false, Bool.and_eq_true] at hp
      obtain ⟨⟨hr, hfree⟩, hp'⟩ := hp
      have hr' : i ∈ Region.ready .any ops listed := by simpa using hr
      have hcl' := closed_set hcl hr'
      have take : ∀ (v : Value) (I : World → Prop), YieldsI P ops o v I a → I w → wpAnyO P ops Q ((i, I) :: RS) fuel (listed.setIfInBounds i true) (a.put o.dst v) w → wpAnyO P ops Q RS (fuel + 1) listed a w :=
        fun v I hy hI h => wpAnyO_take ho hsel (fun c a w => hQ c a _ _ w (hw0 o (Array.mem_of_getElem? ho))) fuel listed a w hcl (Region.free_spec ho hfree) hr' hy hI h
      rcases hw with ⟨hw, hx⟩ | ⟨hw, hx⟩
      · rw [he'] at hx
        obtain ⟨v, sv, hk, hrv, hrun⟩ := qu_ok _ a ρ w hx hA h3
        obtain ⟨s2, hk2, e1, e2, hF2⟩ := putS_ok hk h3 hrv
        refine take v (fun w' => Agr s1.G ρ (rdOf s1 o) w w') (.inl ⟨hw, hrun⟩) (Agr.refl _ _ _ _) ?_
        refine sxPl2_ok hsel hQ hw0 hP hK pl ((i, rdOf s1 o) :: R) _ _ rel fuel hl' hp' hcl' ?_ hk2 (by rw [e1, e2]; exact hA) hF2 (hd' v)
        intro r hr
        rw [e2]
        rcases List.mem_cons.1 hr with rfl | hr
        · refine .inr ⟨rdOf s1 o, by simp, fun w1 w2 hb hI => ?_⟩
          exact ⟨fun b o' hg => by rw [hb b (.inl ⟨o', hg⟩)]; exact hI.1 b o' hg, fun j hj x b hx hxb => by rw [hb b (.inr ⟨j, hj, x, hx, hxb⟩)]; exact hI.2 j hj x b hx hxb⟩
        · rcases hRS r hr with h | ⟨rd, hm, himp⟩
          · exact .inl h
          · exact .inr ⟨rd, List.mem_cons_of_mem _ hm, himp⟩
      · rw [he'] at hx
        obtain ⟨s2, hk2, e1, e2, hF2⟩ := putS_ok hx h3 (v := undef) (by simp [Rv])
        refine take undef (fun _ => True) (.inr ⟨hw, rfl⟩) trivial ?_
        refine sxPl2_ok hsel hQ hw0 hP hK pl ((i, []) :: R) _ _ rel fuel hl' hp' hcl' ?_ hk2 (by rw [e1, e2]; exact hA) hF2 (hd' _)
        intro r hr
        rw [e2]
        rcases List.mem_cons.1 hr with rfl | hr
        · exact .inr ⟨[], by simp, fun _ _ _ _ => trivial⟩
        · rcases hRS r hr with h | ⟨rd, hm, himp⟩
          · exact .inl h
          · exact .inr ⟨rd, List.mem_cons_of_mem _ hm, himp⟩
  | .alt x y, R, RS, listed, rel, fuel, s, a, w, ρ, hl, hp, hcl, hRS, hS, hA, hF, hd => by
    simp only [planOk, Bool.and_eq_true] at hp
    simp only [sxPl2] at hS
    simp only [PT.len] at hl
    obtain ⟨⟨⟨hne, hall⟩, hpx⟩, hpy⟩ := hp
    have hx := altOk_len ops x listed rel hpx
    cases fuel with
    | zero => omega
    | succ fuel =>
      refine ⟨fun h0 => ?_, fun j hj => ?_⟩
      · rw [h0] at hne; simp at hne
      · have hm := List.all_eq_true.1 hall j hj
        simp only [List.contains_iff_mem, List.mem_append] at hm
        rcases hm with hm | hm
        · exact alt_ok hsel hQ hw0 hP hK x R RS listed rel fuel (by omega) hpx hcl j hm hj hRS hS.1 hA hF hd
        · exact alt_ok hsel hQ hw0 hP hK y R RS listed rel fuel (by omega) hpy hcl j hm hj hRS hS.2 hA hF hd
theorem alt_ok {P : Program} {ops : Array Oper} {Q : Exit → Act → World → Prop} (hsel : ∀ (j : Nat) (o : Oper) cs b, ops[j]? = some o → o.op ≠ .select cs b)
    (hQ : ∀ c a d v w, E.dOk d → Q (.panic c) (Act.put a d v) w → Q (.panic c) a w) {K : St → Prop} (hw0 : ∀ o ∈ ops, E.dOk o.dst)
    (hP : ∀ x H' G', E.Pan x H' G' → ∀ ρ' a' w', Ag E ρ' H' G' w' → E.Kp a' → Q (.panic [{ v := x, recovered := false }]) a' w')
    (hK : ∀ s', K s' → ∀ ρ' a' w', Ag E ρ' s'.H s'.G w' → Rvs ρ' s'.fr a'.tmps.toList → E.Kp a' → Q .normal a' w') :
    ∀ (q : PT) (R : Plan) (RS : Rl) (listed : Array Bool) (rel : List Nat) (fuel : Nat) {s : St} {a : Act} {w : World} {ρ : List Value}, q.len ≤ fuel + 1 →
    altOk ops q listed rel = true → Closed ops listed → ∀ i, i ∈ q.heads → i ∈ Region.ready .any ops listed → (∀ r ∈ RS, Conn ρ s.G R rel r) →
    sxPl2 P E ops.toList q R K s → Ag E ρ s.H s.G w → Rvs ρ s.fr a.tmps.toList → E.Kp a →
    wpOp P ops Q i (fun a' w' => Pres ops RS i w w' ∧ wpAnyO P ops Q RS fuel (listed.setIfInBounds i true) a' w') a w
  | .nil, R, RS, listed, rel, fuel, s, a, w, ρ, hl, hp, hcl, j, hj, hr, hRS, hS, hA, hF, hd => by simp [altOk] at hp
  | .alt x y, R, RS, listed, rel, fuel, s, a, w, ρ, hl, hp, hcl, j, hj, hr, hRS, hS, hA, hF, hd => by
    simp only [altOk, Bool.and_eq_true] at hp
    simp only [sxPl2] at hS
    simp only [PT.len] at hl
    simp only [PT.heads, List.mem_append] at hj
    rcases hj with hj | hj
    · exact alt_ok hsel hQ hw0 hP hK x R RS listed rel fuel (by omega) hp.1 hcl j hj hr hRS hS.1 hA hF hd
    · exact alt_ok hsel hQ hw0 hP hK y R RS listed rel fuel (by omega) hp.2 hcl j hj hr hRS hS.2 hA hF hd
  | .cons i ks pl, R, RS, listed, rel, fuel, s, a, w, ρ, hl, hp, hcl, j, hj, hr, hRS, hS, hA, hF, hd => by
    simp only [PT.heads, List.mem_singleton] at hj
    have hj' := hj.symm
    subst hj'
    have hl' : pl.len ≤ fuel := by simpa [PT.len] using hl
    simp only [altOk] at hp
    split at hp
    case h_2 => simp at hp
    rename_i o ho
    simp only [sxPl2, nth_eq] at hS
    have ho' : ops.toList[i]? = some o := by simpa using ho
    rw [ho'] at hS
    simp only at hS
    obtain ⟨s1, h1, h2, h3, hw⟩ := guard_ok hS hF
    simp only [Array.toArray_toList] at hw
    rw [← h1, ← h2] at hA
    rw [← h2] at hRS
    have hd' : ∀ v, E.Kp (a.put o.dst v) := fun v => hd.put (hw0 o (Array.mem_of_getElem? ho)) v
    simp only [Bool.and_eq_true] at hp
    obtain ⟨⟨⟨he, hrel⟩, hks⟩, hp'⟩ := hp
    have hcl' := closed_set hcl (i := i) hr
    unfold wpOp
    simp only [ho]
    rcases hw with ⟨hw, hx⟩ | ⟨hw, hx⟩
    · rw [if_pos hw]
      refine .inl ?_
      rw [he] at hx
      refine eff_ok (ρ := ρ) (fun T sv s' hk ρ' v w' hA' hF' hrv hfp => ?_) (fun x H' G' ρ' w' hp hA' => hP x H' G' hp ρ' a w' hA' hd) hx hA h3
      split at hk
      case h_2 => exact hk.no.elim
      rename_i hc
      obtain ⟨s2, hk2, e1, e2, hF2⟩ := putS_ok hk hF' hrv
      obtain ⟨hpres, hRS'⟩ := pres_eff hA hfp hc hks hrel hRS
      refine ⟨hpres, sxPl2_ok hsel hQ hw0 hP hK pl (dropR R ks) RS _ ks fuel hl' hp' hcl' ?_ hk2 (by rw [e1, e2]; exact hA') hF2 (hd' v)⟩
      rw [e2]; exact hRS'
    · rw [if_neg (by simp [hw])]
      rw [he] at hx
      obtain ⟨s2, hk2, e1, e2, hF2⟩ := putS_ok hx h3 (v := undef) (by simp [Rv])
      obtain ⟨hpres, hRS'⟩ := pres_eff (i := i) (ops := ops) hA (Fp.refl []) (chkR_nil R ks) hks hrel hRS
      refine ⟨hpres, sxPl2_ok hsel hQ hw0 hP hK pl (dropR R ks) RS _ ks fuel hl' hp' hcl' ?_ hk2 (by rw [e1, e2]; exact hA) hF2 (hd' _)⟩
      rw [e2]; exact hRS'
end

theorem region_draw {P : Program} {id : Nat} {ops : Array Oper} {Q : Exit → Act → World → Prop} {pl : Plan2} (hm : P.follows .mixedOrders = true) (hp : drawOk ops pl = true)
    (hQ : ∀ c a d v w, E.dOk d → Q (.panic c) (Act.put a d v) w → Q (.panic c) a w) {K : St → Prop} (hw0 : ∀ o ∈ ops, E.dOk o.dst)
    (hP : ∀ x H' G', E.Pan x H' G' → ∀ ρ' a' w', Ag E ρ' H' G' w' → E.Kp a' → Q (.panic [{ v := x, recovered := false }]) a' w')
    (hK : ∀ s', K s' → ∀ ρ' a' w', Ag E ρ' s'.H s'.G w' → Rvs ρ' s'.fr a'.tmps.toList → E.Kp a' → Q .normal a' w') {s : St} {a : Act}
    (hS : sxPl2 P E ops.toList pl [] K s) (hA : Ag E ρ s.H s.G w) (hF : Rvs ρ s.fr a.tmps.toList) (hd : E.Kp a) : (Code.region id ops true).wp P Q a w := by
  simp only [drawOk, Bool.and_eq_true] at hp
  obtain ⟨⟨h1, h2⟩, h3⟩ := hp
  refine wp_region_any hm (wpAnyO_any (R := []) _ _ _ _ ?_)
  refine sxPl2_ok (Region.noSelect_spec h1) hQ hw0 hP hK pl [] [] _ [] ops.size (Nat.le_of_ble_eq_true h2) h3 ?_ (by simp) hS (hA.drawn _) hF hd
  intro j o ho hl
  have : (Array.replicate ops.size false).getD j false = false := by
    simp only [Array.getD_eq_getD_getElem?, Array.getElem?_replicate]
    split <;> rfl
  rw [this] at hl; cases hl
end
end Go.SX

namespace Go.SX
set_option linter.unusedVariables false
set_option linter.unusedSimpArgs false
section
variable {E : Env} {ρ : List Value} {H : List Ob} {G : Gh} {w : World}

inductive Ex where
  | normal
  | ret
  | exit (id : Nat)
def Ex.up : Ex → Exit
  | .normal => .normal
  | .ret => .ret
  | .exit id => .exit id

abbrev Kont := Ex → St → Prop
/-- What follows. -/
structure KOK (E : Env) (K : Kont) (Q : Exit → Act → World → Prop) : Prop where
  go : ∀ e s, K e s → ∀ ρ a w, Ag E ρ s.H s.G w → Rvs ρ s.fr a.tmps.toList → E.Kp a → Q e.up a w
  pan : ∀ c a d v w, E.dOk d → Q (.panic c) (Act.put a d v) w → Q (.panic c) a w
  pan0 : ∀ x H' G', E.Pan x H' G' → ∀ ρ' a' w', Ag E ρ' H' G' w' → E.Kp a' → Q (.panic [{ v := x, recovered := false }]) a' w'

/-- A loop that the walk has come to. -/
structure LoopVC (P : Program) (E : Env) (body : Code) (s : St) (K : Kont) : Prop where
  out : ∀ Q, E.W = [] → KOK E K Q → ∀ ρ a w, Ag E ρ s.H s.G w → Rvs ρ s.fr a.tmps.toList → E.Kp a → (Code.loop body).wp P Q a w
structure BadC (c : Code) : Prop where
  no : False
structure NoPlan (id : Nat) : Prop where
  no : False
/-- The plan of a region whose order is drawn. -/
structure DrawVC (ops : Array Oper) (pl : Plan2) (A : Prop) : Prop where
  ok : drawOk ops pl = true
  nxt : A
theorem drw {ops : Array Oper} {pl : Plan2} {A : Prop} (h : drawOk ops pl = true) (ha : A) : DrawVC ops pl A := ⟨h, ha⟩

def planOf : List (Nat × Plan2) → Nat → Option Plan2
  | [], _ => none
  | (k, pl) :: l, id => match Nat.beq k id with
    | true => some pl
    | false => planOf l id

def litAt (c : Operand) (b : Bool) (s : St) (k : St → Prop) : Prop :=
  match c with
  | .tmp t => s.un fun fr H G => forceSp (fr.set t (.lit b)) fun fr' => k ⟨fr', H, G⟩
  | _ => k s

def sxC (P : Program) (E : Env) (Pl : List (Nat × Plan2)) : Code → Kont → St → Prop
  | .skip, K, s => K .normal s
  | .label _, K, s => K .normal s
  | .ret, K, s => K .ret s
  | .exit id, K, s => K (.exit id) s
  | .region id ops draw, K, s => match draw with
    | false => sxOps P E ops.toList ops.toList (K .normal) s
    | true => match planOf Pl id with
      | some pl => DrawVC ops pl (sxPl2 P E ops.toList pl [] (K .normal) s)
      | none => NoPlan id
  | .seq a b, K, s => sxC P E Pl a (fun e s => match e with
      | .normal => sxC P E Pl b K s
      | .ret => K .ret s
      | .exit i => K (.exit i) s) s
  | .cond c x y, K, s => match evr s.fr c with
    | .lit true => sxC P E Pl x K s
    | .lit false => sxC P E Pl y K s
    | .v (.bool b) => br b (litAt c true s (sxC P E Pl x K)) (litAt c false s (sxC P E Pl y K))
    | _ => BadC (.cond c x y)
  | .block id body, K, s => sxC P E Pl body (fun e s => match e with
      | .normal => K .normal s
      | .ret => K .ret s
      | .exit j => match Nat.beq j id with
        | true => K .normal s
        | false => K (.exit j) s) s
  | .loop body, K, s => LoopVC P E body s K
  | .rangeFunc f a b c, K, s => BadC (.rangeFunc f a b c)
  | .scope c, K, s => BadC (.scope c)
  | .goto l, K, s => BadC (.goto l)
  | .refuse m, K, s => BadC (.refuse m)

theorem lit_ok {c : Operand} {b : Bool} {s : St} {k : St → Prop} (h : litAt c b s k) {a : Act} (hF : Rvs ρ s.fr a.tmps.toList) (hc : a.eval c = .bool b) :
    ∃ s', k s' ∧ s'.H = s.H ∧ s'.G = s.G ∧ Rvs ρ s'.fr a.tmps.toList := by
  unfold litAt at h
  cases c with
  | tmp t =>
    simp only [St.un_eq, forceSp_eq] at h
    by_cases ht : t < a.tmps.size
    · refine ⟨_, h, rfl, rfl, set_lit hF ?_⟩
      simp only [Act.eval, Array.getD_eq_getD_getElem?, Array.getElem?_eq_getElem ht, Option.getD_some] at hc
      rw [Array.getElem?_toList, Array.getElem?_eq_getElem ht, hc]
    · simp [Act.eval, Array.getD_eq_getD_getElem?, Array.getElem?_eq_none (Nat.not_lt.1 ht), undef] at hc
  | const v => exact ⟨s, h, rfl, rfl, hF⟩
  | global g => exact ⟨s, h, rfl, rfl, hF⟩
  | func f => exact ⟨s, h, rfl, rfl, hF⟩

/-- No operation of the code writes into a slot that is kept. -/
def okW (E : Env) : Code → Prop
  | .region _ ops _ => ∀ o ∈ ops, E.dOk o.dst
  | .seq a b => okW E a ∧ okW E b
  | .cond _ x y => okW E x ∧ okW E y
  | .block _ b => okW E b
  | .loop _ => E.W = []
  | _ => True
theorem okW_nil (h : E.W = []) : ∀ c, okW E c
  | .region _ ops _ => fun o _ => Env.dOk_nil h _
  | .seq a b => ⟨okW_nil h a, okW_nil h b⟩
  | .cond _ x y => ⟨okW_nil h x, okW_nil h y⟩
  | .block _ b => okW_nil h b
  | .loop _ => h
  | .skip => trivial
  | .label _ => trivial
  | .ret => trivial
  | .exit _ => trivial
  | .rangeFunc _ _ _ _ => trivial
  | .scope _ => trivial
  | .goto _ => trivial
  | .refuse _ => trivial
theorem sxC_ok {P : Program} (hm : P.follows .mixedOrders = true) (Pl : List (Nat × Plan2)) : ∀ (c : Code) {K : Kont} {Q : Exit → Act → World → Prop} {s : St} {a : Act} {w : World} {ρ : List Value}, KOK E K Q →
    sxC P E Pl c K s → Ag E ρ s.H s.G w → Rvs ρ s.fr a.tmps.toList → E.Kp a → okW E c → c.wp P Q a w
  | .skip, K, Q, s, a, w, ρ, hK, hS, hA, hF, hd, hwk => wp_skip (hK.go .normal s hS ρ a w hA hF hd)
  | .label _, K, Q, s, a, w, ρ, hK, hS, hA, hF, hd, hwk => wp_label (hK.go .normal s hS ρ a w hA hF hd)
  | .ret, K, Q, s, a, w, ρ, hK, hS, hA, hF, hd, hwk => wp_ret (hK.go .ret s hS ρ a w hA hF hd)
  | .exit id, K, Q, s, a, w, ρ, hK, hS, hA, hF, hd, hwk => wp_exit (hK.go (.exit id) s hS ρ a w hA hF hd)
  | .region id ops draw, K, Q, s, a, w, ρ, hK, hS, hA, hF, hd, hwk => by
    simp only [sxC] at hS
    have hn : ∀ s', K .normal s' → ∀ ρ' a' w', Ag E ρ' s'.H s'.G w' → Rvs ρ' s'.fr a'.tmps.toList → E.Kp a' → Q .normal a' w' :=
      fun s' hs ρ' a' w' => hK.go .normal s' hs ρ' a' w'
    cases draw with
    | false =>
      refine wp_region_list ?_
      have := sxOps_ok (P := P) (all := ops.toList) (Q := Q) ops.toList hn hK.pan0 hS hA hF hd (fun o ho => hwk o (by simpa using ho))
      simpa using this
    | true =>
      simp only at hS
      split at hS
      · rename_i pl hpl
        exact region_draw hm hS.ok hK.pan hwk hK.pan0 hn hS.nxt hA hF hd
      · exact hS.no.elim
  | .seq x y, K, Q, s, a, w, ρ, hK, hS, hA, hF, hd, hwk => by
    simp only [sxC] at hS
    refine wp_seq (sxC_ok hm Pl x ⟨?_, ?_, hK.pan0⟩ hS hA hF hd hwk.1)
    · intro e s' hs ρ' a' w' hA' hF' hd'
      cases e with
      | normal => exact sxC_ok hm Pl y hK hs hA' hF' hd' hwk.2
      | ret => exact hK.go .ret s' hs ρ' a' w' hA' hF' hd'
      | exit i => exact hK.go (.exit i) s' hs ρ' a' w' hA' hF' hd'
    · exact hK.pan
  | .cond c x y, K, Q, s, a, w, ρ, hK, hS, hA, hF, hd, hwk => by
    simp only [sxC] at hS
    have hc := evr_ok hF c
    split at hS
    · rename_i he; rw [he] at hc; simp only [Rv] at hc; exact wp_cond_true hc (sxC_ok hm Pl x hK hS hA hF hd hwk.1)
    · rename_i he; rw [he] at hc; simp only [Rv] at hc; exact wp_cond_false hc (sxC_ok hm Pl y hK hS hA hF hd hwk.2)
    · rename_i b he
      rw [he] at hc
      simp only [Rv] at hc
      have hb := br_ok hS
      cases b
      · simp only [Bool.false_eq_true, if_false] at hb
        obtain ⟨s', hk, e1, e2, hF'⟩ := lit_ok hb hF hc
        exact wp_cond_false hc (sxC_ok hm Pl y hK hk (by rw [e1, e2]; exact hA) hF' hd hwk.2)
      · simp only [if_true] at hb
        obtain ⟨s', hk, e1, e2, hF'⟩ := lit_ok hb hF hc
        exact wp_cond_true hc (sxC_ok hm Pl x hK hk (by rw [e1, e2]; exact hA) hF' hd hwk.1)
    · exact hS.no.elim
  | .block id body, K, Q, s, a, w, ρ, hK, hS, hA, hF, hd, hwk => by
    simp only [sxC] at hS
    refine wp_block (sxC_ok hm Pl body ⟨?_, ?_, hK.pan0⟩ hS hA hF hd hwk)
    · intro e s' hs ρ' a' w' hA' hF' hd'
      cases e with
      | normal => exact hK.go .normal s' hs ρ' a' w' hA' hF' hd'
      | ret => exact hK.go .ret s' hs ρ' a' w' hA' hF' hd'
      | exit j =>
        simp only [Ex.up, Exit.inBlock]
        simp only at hs
        split at hs
        · rename_i hj
          rw [if_pos (Nat.eq_of_beq_eq_true hj)]
          exact hK.go .normal s' hs ρ' a' w' hA' hF' hd'
        · rename_i hj
          rw [if_neg (fun e => by subst e; simp at hj)]
          exact hK.go (.exit j) s' hs ρ' a' w' hA' hF' hd'
    · exact hK.pan
  | .loop body, K, Q, s, a, w, ρ, hK, hS, hA, hF, hd, hwk => hS.out Q hwk hK ρ a w hA hF hd
  | .rangeFunc _ _ _ _, K, Q, s, a, w, ρ, hK, hS, hA, hF, hd, hwk => hS.no.elim
  | .scope _, K, Q, s, a, w, ρ, hK, hS, hA, hF, hd, hwk => hS.no.elim
  | .goto _, K, Q, s, a, w, ρ, hK, hS, hA, hF, hd, hwk => hS.no.elim
  | .refuse _, K, Q, s, a, w, ρ, hK, hS, hA, hF, hd, hwk => hS.no.elim

/-! ### loops -/
theorem wp_loopx {P : Program} {α : Type} {c : Code} {Q : Exit → Act → World → Prop} (I : α → Act → World → Prop) (μ : α → Nat)
    (round : ∀ x a w, I x a w → c.wp P (Exit.then (fun a' w' => ∃ y, I y a' w' ∧ μ y < μ x) Q) a w) {x0 : α} {a : Act} {w : World} (h0 : I x0 a w) : (Code.loop c).wp P Q a w := by
  intro b k cs
  have key : ∀ n x a w, μ x = n → I x a w →
      ∃ e a' w', Q e a' w' ∧ Arrives P (lone (b.at a (.code c :: .inLoop c :: k)) cs w) b k cs e a' w' := by
    intro n
    induction n using Nat.strongRecOn with
    | _ n ih =>
      intro x a w hn hI
      obtain ⟨e, a₁, w₁, hq, harr⟩ := round x a w hI b (.inLoop c :: k) cs
      cases e with
      | normal =>
        obtain ⟨y, hI₁, hlt⟩ := hq
        obtain ⟨e₂, a₂, w₂, hq₂, harr₂⟩ := ih (μ y) (hn ▸ hlt) y a₁ w₁ rfl hI₁
        exact ⟨e₂, a₂, w₂, hq₂, .of_steps (Steps.trans harr (.one step_inLoop)) harr₂⟩
      | exit id => exact ⟨_, a₁, w₁, hq, .pass (x := .inLoop c) rfl (fun _ _ => .inl (by simp)) harr⟩
      | goto l => exact ⟨_, a₁, w₁, hq, .pass (x := .inLoop c) rfl (fun _ _ => .inl (by simp)) harr⟩
      | ret => exact ⟨_, a₁, w₁, hq, .pass (x := .inLoop c) rfl (fun _ _ => .inl (by simp)) harr⟩
      | panic ch => exact ⟨_, a₁, w₁, hq, .pass (x := .inLoop c) rfl (fun _ _ => .inl (by simp)) harr⟩
      | outgrown => exact ⟨_, a₁, w₁, hq, .pass (x := .inLoop c) rfl (fun _ _ => .inl (by simp)) harr⟩
  obtain ⟨e, a', w', hq, harr⟩ := key _ x0 a w rfl h0
  exact ⟨e, a', w', hq, .of_steps (.one step_loop) harr⟩

/-- Less is known. -/
def wk : List SV → List SV → Prop
  | [], [] => True
  | a :: l, b :: l' => (b = .dead ∨ a = b) ∧ wk l l'
  | _, _ => False
theorem wk_ok : ∀ {xs ys : List SV} {vs : List Value}, wk xs ys → Rvs ρ xs vs → Rvs ρ ys vs
  | [], [], vs, _, h => h
  | a :: l, b :: l', vs, hw, h => by
    simp only [Rvs] at h ⊢
    obtain ⟨y, yt, rfl, h1, h2⟩ := h
    refine ⟨y, yt, rfl, ?_, wk_ok hw.2 h2⟩
    rcases hw.1 with rfl | rfl
    · simp [Rv]
    · exact h1
  | [], _ :: _, _, hw, _ => hw.elim
  | _ :: _, [], _, hw, _ => hw.elim

theorem loop_rule {P : Program} (hm : P.follows .mixedOrders = true) (Pl : List (Nat × Plan2)) {α : Type} {body : Code} {K : Kont} {s : St} (Inv : α → St → Prop) (μ : α → Nat)
    (h0 : ∃ x s1, Inv x s1 ∧ s1.H = s.H ∧ s1.G = s.G ∧ wk s.fr s1.fr)
    (step : ∀ x s, Inv x s → sxC P E Pl body (fun e s' => match e with
      | .normal => ∃ y s1, Inv y s1 ∧ μ y < μ x ∧ s1.H = s'.H ∧ s1.G = s'.G ∧ wk s'.fr s1.fr
      | .ret => K .ret s'
      | .exit i => K (.exit i) s') s) : LoopVC P E body s K := by
  refine ⟨fun Q hW0 hK ρ a w hA hF hd => ?_⟩
  obtain ⟨x0, s1, hI, e1, e2, hw⟩ := h0
  refine wp_loopx (fun x a w => ∃ s ρ, Inv x s ∧ Ag E ρ s.H s.G w ∧ Rvs ρ s.fr a.tmps.toList ∧ E.Kp a) μ ?_ (x0 := x0) ⟨s1, ρ, hI, by rw [e1, e2]; exact hA, wk_ok hw hF, hd⟩
  rintro x a w ⟨s, ρ, hI, hA, hF, hd⟩
  refine sxC_ok hm Pl body ⟨?_, ?_, hK.pan0⟩ (step x s hI) hA hF hd (okW_nil hW0 body)
  · intro e s' hs ρ' a' w' hA' hF' hd'
    cases e with
    | normal =>
      obtain ⟨y, s1, hy, hlt, e1, e2, hw⟩ := hs
      exact ⟨y, ⟨s1, ρ', hy, by rw [e1, e2]; exact hA', wk_ok hw hF', hd'⟩, hlt⟩
    | ret => exact hK.go .ret s' hs ρ' a' w' hA' hF' hd'
    | exit i => exact hK.go (.exit i) s' hs ρ' a' w' hA' hF' hd'
  · exact hK.pan

/-! ### a function -/
def sxRes (P : Program) : List ResultVar → St → (List SV → Prop) → Prop
  | [], s, k => k []
  | .tmp t :: l, s, k => forceSV (ev s.fr (.tmp t)) fun v => sxRes P l s fun vs => k (v :: vs)
  | .cell a T :: l, s, k => ldOp P ⟨none, .load T (.tmp a), 0, "", #[], none⟩ T (.tmp a) s fun v => forceSV v fun v => sxRes P l s fun vs => k (v :: vs)

theorem sxRes_ok {P : Program} {a : Act} : ∀ (l : List ResultVar) {s : St} {k : List SV → Prop}, sxRes P l s k → Ag E ρ s.H s.G w → Rvs ρ s.fr a.tmps.toList →
    ∃ svs vs, k svs ∧ Rvs ρ svs vs ∧ (l.mapM (fun r => match r with | .tmp t => pure (a.tmps.getD t undef) | .cell x t => do loadVar t (← asAddr (a.tmps.getD x undef))) : Sem (List Value)).run P w = .ok vs w
  | [], s, k, h, hA, hF => ⟨[], [], h, by simp [Rvs], by simp⟩
  | .tmp t :: l, s, k, h, hA, hF => by
    simp only [sxRes, forceSV_eq] at h
    obtain ⟨svs, vs, hk, hr, hrun⟩ := sxRes_ok l h hA hF
    refine ⟨_, a.eval (.tmp t) :: vs, hk, ?_, ?_⟩
    · simp only [Rvs]; exact ⟨_, _, rfl, ev_ok hF (.tmp t), hr⟩
    · simp only [List.mapM_cons, Sem.run_bind, Sem.run_pure, Result.andThen_ok, hrun]; rfl
  | .cell x T :: l, s, k, h, hA, hF => by
    simp only [sxRes] at h
    obtain ⟨v, sv, hk, hrv, hrun⟩ := ld_ok (P := P) (E := E) (o := ⟨none, .load T (.tmp x), 0, "", #[], none⟩) rfl s _ a ρ w h hA hF
    rw [forceSV_eq] at hk
    obtain ⟨svs, vs, hk', hr, hrun'⟩ := sxRes_ok l hk hA hF
    have h1 := hrun w (Agr.refl _ _ _ _)
    refine ⟨_, v :: vs, hk', by simp only [Rvs]; exact ⟨_, _, rfl, hrv, hr⟩, ?_⟩
    have h2 : (do loadVar T (← asAddr (a.tmps.getD x undef)) : Sem Value).run P w = .ok v w := by
      simp only [execOp, Act.eval] at h1
      cases hx : a.tmps.getD x undef <;> simp only [hx, Instr.loadAt, Instr.sureAddr] at h1 <;> try (simp at h1; done)
      rename_i ad
      cases ad with
      | none => simp at h1
      | some ad =>
        simp only [Sem.run_bind, Sem.run_pure, Result.andThen_ok] at h1
        simp only [asAddr, Sem.run_bind, Sem.run_pure, Result.andThen_ok]
        cases hq : (loadVar T ad).run P w with
        | ok v' w' => rw [hq] at h1; simp at h1; obtain ⟨h1, h2⟩ := h1; rw [h1, h2]
        | halt q w' => rw [hq] at h1; simp at h1
    simp only [List.mapM_cons, Sem.run_bind, h2, Result.andThen_ok, hrun', Sem.run_pure]

def Kfin (P : Program) (rs : List ResultVar) (Post : SV → St → Prop) : Kont
  | .normal, s => sxRes P rs s fun vs => match vs with
    | [x] => Post x s
    | [] => Post (.tup []) s
    | x :: y :: l => Post (.tup (x :: y :: l)) s
  | .ret, s => sxRes P rs s fun vs => match vs with
    | [x] => Post x s
    | [] => Post (.tup []) s
    | x :: y :: l => Post (.tup (x :: y :: l)) s
  | .exit i, s => BadC (.exit i)

theorem sx_calls {P : Program} (hm : P.follows .mixedOrders = true) (Pl : List (Nat × Plan2)) {f : FuncId} {fn : Func} {body : Code} (hf : P.funcs[f]? = some fn) (hb : fn.body = some body)
    {args : List SV} {ys : List Value} {Post : SV → St → Prop} (hD : E.D = []) (hW0 : E.W = []) (hA : Ag E ρ H G w) (hargs : Rvs ρ args ys)
    (hS : forceSp (args ++ List.replicate (fn.ntmps - args.length) (.v undef)) fun fr => sxC P E Pl body (Kfin P fn.results.toList Post) ⟨fr, H, G⟩) :
    Calls P f ys.toArray w fun e w' => (∃ v sv s' ρ', e = .returned v ∧ Post sv s' ∧ Ag E ρ' s'.H s'.G w' ∧ Rv ρ' sv v) ∨ ∃ x H' G' ρ', e = .panicked [{ v := x, recovered := false }] ∧ E.Pan x H' G' ∧ Ag E ρ' H' G' w' := by
  rw [forceSp_eq] at hS
  refine calls_of_wp hf hb ?_
  refine sxC_ok hm Pl body (K := Kfin P fn.results.toList Post) ⟨?_, ?_, ?_⟩ hS hA ?_ ⟨hD.symm, by rw [hW0]; simp⟩ (okW_nil hW0 body)
  · have key : ∀ s', (sxRes P fn.results.toList s' fun vs => match vs with
        | [x] => Post x s'
        | [] => Post (.tup []) s'
        | x :: y :: l => Post (.tup (x :: y :: l)) s') → ∀ ρ' (a' : Act) w', Ag E ρ' s'.H s'.G w' → Rvs ρ' s'.fr a'.tmps.toList → E.Kp a' →
        a'.defers = [] ∧ ∃ v, (results fn a'.tmps).run P w' = .ok v w' ∧ ((∃ v1 sv s' ρ', Ending.returned v = .returned v1 ∧ Post sv s' ∧ Ag E ρ' s'.H s'.G w' ∧ Rv ρ' sv v1) ∨ ∃ x H' G' ρ', Ending.returned v = .panicked [{ v := x, recovered := false }] ∧ E.Pan x H' G' ∧ Ag E ρ' H' G' w') := by
      intro s' hs ρ' a' w' hA' hF' hd'
      obtain ⟨svs, vs, hk, hr, hrun⟩ := sxRes_ok fn.results.toList hs hA' hF'
      have hres : (results fn a'.tmps).run P w' = .ok (if h : vs.toArray.size = 1 then vs.toArray[0] else .tuple vs.toArray) w' := by
        unfold results
        rw [Array.mapM_eq_mapM_toList]
        simp only [Sem.run_bind, Sem.run_map]
        refine Eq.trans (congrArg (fun r : Result (List Value) => (r.andThen fun a w' => Result.ok a.toArray w').andThen fun (a : Array Value) w' => Sem.run P (pure (if h : a.size = 1 then a[0] else Value.tuple a)) w') hrun) ?_
        rfl
      refine ⟨hd'.1.trans hD, _, hres, .inl ?_⟩
      match svs, hk, hr with
      | [], hk, hr =>
        simp only [Rvs] at hr; subst hr
        exact ⟨_, _, s', ρ', rfl, hk, hA', by simp [Rv, Rvs]⟩
      | [x], hk, hr =>
        simp only [Rvs] at hr
        obtain ⟨y, yt, rfl, h1, rfl⟩ := hr
        exact ⟨_, _, s', ρ', rfl, hk, hA', by simpa using h1⟩
      | x :: y :: l, hk, hr =>
        have hl := hr.length
        refine ⟨_, _, s', ρ', rfl, hk, hA', ?_⟩
        rw [dif_neg (by simp at hl ⊢; omega)]
        simp only [Rv]
        exact ⟨_, rfl, by simpa using hr⟩
    intro e s' hs ρ' a' w' hA' hF' hd'
    cases e with
    | normal => exact key s' hs ρ' a' w' hA' hF' hd'
    | ret => exact key s' hs ρ' a' w' hA' hF' hd'
    | exit i => exact hs.no.elim
  · rintro c a d v w - ⟨h1, h2⟩
    refine ⟨by cases d <;> exact h1, h2⟩
  · intro x H' G' hp ρ' a' w' hA' hd'
    exact ⟨hd'.1.trans hD, .inr ⟨x, H', G', ρ', rfl, hp, hA'⟩⟩
  · have hl := hargs.length
    simp only [Array.toList_append, Array.toList_replicate, List.size_toArray, hl]
    refine hargs.append ?_
    have : ∀ n, Rvs ρ (List.replicate n (.v undef)) (List.replicate n undef) := by
      intro n
      induction n with
      | zero => simp [Rvs]
      | succ n ih => simp only [List.replicate_succ, Rvs]; exact ⟨_, _, rfl, by simp [Rv], ih⟩
    exact this _
end
end Go.SX

namespace Go.SX
set_option linter.unusedVariables false
set_option linter.unusedSimpArgs false

mutual
def SV.map (r : Nat → Option Nat) : SV → SV
  | .v x => .v x
  | .p i o => match r i with
    | some k => .p k o
    | none => .dead
  | .s i => match r i with
    | some k => .s k
    | none => .dead
  | .f fn a c => .f fn (maps r a) (maps r c)
  | .agg xs => .agg (maps r xs)
  | .tup xs => .tup (maps r xs)
  | .lit b => .lit b
  | .dead => .dead
def maps (r : Nat → Option Nat) : List SV → List SV
  | [] => []
  | x :: xs => x.map r :: maps r xs
end
def Ob.map (r : Nat → Option Nat) : Ob → Ob
  | .cells T xs => .cells T (maps r xs)
  | .row e sz n xs => .row e sz n xs
  | .lit T n xs => .lit T n (maps r xs)
  | .gone => .gone

section
variable {ρa ρb : List Value} {r : Nat → Option Nat}
mutual
theorem Rv.fwd (hr : ∀ i k x, r i = some k → ρa[i]? = some x → ρb[k]? = some x) : ∀ {x : SV} {y : Value}, Rv ρa x y → Rv ρb (x.map r) y
  | .v _, _, h => by simpa [Rv, SV.map] using h
  | .p i off, _, h => by
    simp only [Rv, SV.map] at h ⊢
    obtain ⟨x, b, hb, hx, rfl⟩ := h
    split
    · rename_i k hk; simp only [Rv]; exact ⟨x, b, hr i k x hk hb, hx, rfl⟩
    · simp [Rv]
  | .s i, _, h => by
    simp only [Rv, SV.map] at h ⊢
    split
    · rename_i k hk; simp only [Rv]; exact hr i k _ hk h
    · simp [Rv]
  | .f fn a c, _, h => by
    simp only [Rv, SV.map] at h ⊢
    obtain ⟨a', c', rfl, h1, h2⟩ := h
    exact ⟨a', c', rfl, Rvs.fwd hr h1, Rvs.fwd hr h2⟩
  | .agg xs, _, h => by
    simp only [Rv, SV.map] at h ⊢
    obtain ⟨ys, rfl, h1⟩ := h
    exact ⟨ys, rfl, Rvs.fwd hr h1⟩
  | .tup xs, _, h => by
    simp only [Rv, SV.map] at h ⊢
    obtain ⟨ys, rfl, h1⟩ := h
    exact ⟨ys, rfl, Rvs.fwd hr h1⟩
  | .lit _, _, h => by simpa [Rv, SV.map] using h
  | .dead, _, _ => by simp [Rv, SV.map]
theorem Rvs.fwd (hr : ∀ i k x, r i = some k → ρa[i]? = some x → ρb[k]? = some x) : ∀ {xs : List SV} {ys : List Value}, Rvs ρa xs ys → Rvs ρb (maps r xs) ys
  | [], _, h => by simpa [Rvs, maps] using h
  | x :: xs, _, h => by
    simp only [Rvs, maps] at h ⊢
    obtain ⟨y, yt, rfl, h1, h2⟩ := h
    exact ⟨y, yt, rfl, Rv.fwd hr h1, Rvs.fwd hr h2⟩
end
mutual
theorem Rv.bwd (hr : ∀ i, ∃ k, r i = some k ∧ ∀ x, ρb[k]? = some x → ρa[i]? = some x) : ∀ {x : SV} {y : Value}, Rv ρb (x.map r) y → Rv ρa x y
  | .v _, _, h => by simpa [Rv, SV.map] using h
  | .p i off, _, h => by
    obtain ⟨k, hk, hkx⟩ := hr i
    simp only [Rv, SV.map, hk] at h ⊢
    obtain ⟨x, b, hb, hx, rfl⟩ := h
    exact ⟨x, b, hkx x hb, hx, rfl⟩
  | .s i, _, h => by
    obtain ⟨k, hk, hkx⟩ := hr i
    simp only [Rv, SV.map, hk] at h ⊢
    exact hkx _ h
  | .f fn a c, _, h => by
    simp only [Rv, SV.map] at h ⊢
    obtain ⟨a', c', rfl, h1, h2⟩ := h
    exact ⟨a', c', rfl, Rvs.bwd hr h1, Rvs.bwd hr h2⟩
  | .agg xs, _, h => by
    simp only [Rv, SV.map] at h ⊢
    obtain ⟨ys, rfl, h1⟩ := h
    exact ⟨ys, rfl, Rvs.bwd hr h1⟩
  | .tup xs, _, h => by
    simp only [Rv, SV.map] at h ⊢
    obtain ⟨ys, rfl, h1⟩ := h
    exact ⟨ys, rfl, Rvs.bwd hr h1⟩
  | .lit _, _, h => by simpa [Rv, SV.map] using h
  | .dead, _, _ => by simp [Rv]
theorem Rvs.bwd (hr : ∀ i, ∃ k, r i = some k ∧ ∀ x, ρb[k]? = some x → ρa[i]? = some x) : ∀ {xs : List SV} {ys : List Value}, Rvs ρb (maps r xs) ys → Rvs ρa xs ys
  | [], _, h => by simpa [Rvs, maps] using h
  | x :: xs, _, h => by
    simp only [Rvs, maps] at h ⊢
    obtain ⟨y, yt, rfl, h1, h2⟩ := h
    exact ⟨y, yt, rfl, Rv.bwd hr h1, Rvs.bwd hr h2⟩
end
theorem ObOK.fwd {w : World} (hr : ∀ i k x, r i = some k → ρa[i]? = some x → ρb[k]? = some x) {ob : Ob} {x : Value} (h : ObOK ρa w ob x) : ObOK ρb w (ob.map r) x := by
  cases ob with
  | cells T xs => simp only [ObOK, Ob.map] at h ⊢; obtain ⟨b, cs, rfl, h1, h2⟩ := h; exact ⟨b, cs, rfl, h1, Rvs.fwd hr h2⟩
  | row e sz n xs => exact h
  | lit T n xs => simp only [ObOK, Ob.map] at h ⊢; obtain ⟨b, cs, rfl, h1, h2⟩ := h; exact ⟨b, cs, rfl, h1, Rvs.fwd hr h2⟩
  | gone => exact h
theorem ObOK.bwd {w : World} (hr : ∀ i, ∃ k, r i = some k ∧ ∀ x, ρb[k]? = some x → ρa[i]? = some x) {ob : Ob} {x : Value} (h : ObOK ρb w (ob.map r) x) : ObOK ρa w ob x := by
  cases ob with
  | cells T xs => simp only [ObOK, Ob.map] at h ⊢; obtain ⟨b, cs, rfl, h1, h2⟩ := h; exact ⟨b, cs, rfl, h1, Rvs.bwd hr h2⟩
  | row e sz n xs => exact h
  | lit T n xs => simp only [ObOK, Ob.map] at h ⊢; obtain ⟨b, cs, rfl, h1, h2⟩ := h; exact ⟨b, cs, rfl, h1, Rvs.bwd hr h2⟩
  | gone => exact h
end

/-- The callee's number of an object, in the caller's numbers: the objects that were handed on; new ones behind the caller's. -/
def rn (m : List Nat) (N : Nat) (i : Nat) : Option Nat :=
  match nth m i with
  | some k => some k
  | none => some (N + (i - m.length))
def km (kl : List Nat) (i : Nat) : Option Nat :=
  match memN i kl with
  | true => none
  | false => some i

def subH (m : List Nat) (N : Nat) (H : List Ob) : List Nat → List Ob → Prop
  | [], [] => True
  | k :: ks, ob :: obs => nth H k = some (ob.map (rn m N)) ∧ subH m N H ks obs
  | _, _ => False
theorem subH_len {m : List Nat} {N : Nat} {H : List Ob} : ∀ {ks : List Nat} {obs : List Ob}, subH m N H ks obs → obs.length = ks.length
  | [], [], _ => rfl
  | k :: ks, ob :: obs, h => by simp [subH_len h.2]
  | [], _ :: _, h => h.elim
  | _ :: _, [], h => h.elim
theorem subH_get {m : List Nat} {N : Nat} {H : List Ob} : ∀ {ks : List Nat} {obs : List Ob}, subH m N H ks obs → ∀ (i : Nat) ob, obs[i]? = some ob → ∃ k, ks[i]? = some k ∧ H[k]? = some (ob.map (rn m N))
  | [], [], _, i, ob, h => by simp at h
  | k :: ks, ob0 :: obs, h, 0, ob, hi => by simp at hi; subst hi; exact ⟨k, by simp, by rw [← nth_eq]; exact h.1⟩
  | k :: ks, ob0 :: obs, h, i + 1, ob, hi => by simpa using subH_get h.2 i ob (by simpa using hi)
  | [], _ :: _, h, _, _, _ => h.elim
  | _ :: _, [], h, _, _, _ => h.elim

def Fof (ρ : List Value) (b : Nat) : Prop := ∃ (i : Nat) (x : Value), ρ[i]? = some x ∧ blkOf x = some b
def Fr (w : World) (ρ : List Value) (G : Gh) : Env := { w0 := w, F := Fof ρ, ρ0 := ρ, G0 := G }
def pick (ρ : List Value) (m : List Nat) : List Value := m.map fun k => (ρ[k]?).getD .nilFunc
theorem pick_get {ρ : List Value} {m : List Nat} {i : Nat} {x : Value} (h : (pick ρ m)[i]? = some x) : ∃ k, m[i]? = some k ∧ x = (ρ[k]?).getD .nilFunc := by
  unfold pick at h
  rw [List.getElem?_map] at h
  obtain ⟨k, hk, rfl⟩ := Option.map_eq_some_iff.1 h
  exact ⟨k, hk, rfl⟩

section
variable {E : Env} {ρ : List Value} {H : List Ob} {G : Gh} {w : World}

theorem rn_bwd {m : List Nat} (hlen : ρ.length = H.length) : ∀ i, ∃ k, rn m H.length i = some k ∧ ∀ x, ρ[k]? = some x → (pick ρ m)[i]? = some x := by
  intro i
  unfold rn
  rw [nth_eq]
  cases hm : m[i]? with
  | some k => exact ⟨k, rfl, fun x hx => by unfold pick; rw [List.getElem?_map, hm]; simp [hx]⟩
  | none => exact ⟨_, rfl, fun x hx => by have := (List.getElem?_eq_some_iff.1 hx).1; omega⟩

theorem Ag.sub (h : Ag E ρ H G w) {m : List Nat} {H0 : List Ob} (hs : subH m H.length H m H0) (hm : m.Nodup) : Ag (Fr w (pick ρ m) G) (pick ρ m) H0 G w := by
  have hget : ∀ (i : Nat) x, (pick ρ m)[i]? = some x → ∃ k, m[i]? = some k ∧ ρ[k]? = some x := by
    intro i x hx
    obtain ⟨k, hk, rfl⟩ := pick_get hx
    have hi : i < H0.length := by rw [subH_len hs]; exact (List.getElem?_eq_some_iff.1 hk).1
    obtain ⟨k', hk', hH⟩ := subH_get hs i _ (List.getElem?_eq_getElem hi)
    rw [hk] at hk'; simp at hk'; subst hk'
    have : k < ρ.length := by rw [h.len]; exact (List.getElem?_eq_some_iff.1 hH).1
    exact ⟨k, hk, by simp [List.getElem?_eq_getElem this]⟩
  refine ⟨by rw [subH_len hs]; simp [pick], ?_, ?_, ?_, h.ext, fun _ _ _ => rfl, Nat.le_refl _, rfl, rfl, rfl, fun i a hi => hi, fun _ _ hx => hx, fun _ _ hx => .inl hx⟩
  · intro i ob x hob hx
    obtain ⟨k, hk, hkx⟩ := hget i x hx
    obtain ⟨k', hk', hH⟩ := subH_get hs i ob hob
    rw [hk] at hk'; simp at hk'; subst hk'
    exact (h.obs k _ x hH hkx).bwd (rn_bwd h.len)
  · intro i j x y b hx hy hxb hyb
    obtain ⟨k, hk, hkx⟩ := hget i x hx
    obtain ⟨k', hk', hky⟩ := hget j y hy
    have := h.apart k k' x y b hkx hky hxb hyb
    subst this
    exact (List.getElem?_inj (List.getElem?_eq_some_iff.1 hk).1 hm).1 (hk.trans hk'.symm)
  · intro i x b hx hxb
    obtain ⟨k, hk, hkx⟩ := hget i x hx
    obtain ⟨h1, h2, _⟩ := h.own k x b hkx hxb
    exact ⟨h1, h2, .inr ⟨i, x, hx, hxb⟩⟩

/-- A contract: for these arguments and objects the function comes to a result and objects of which Post holds. -/
structure Ct (P : Program) (f : FuncId) (args : List SV) (H : List Ob) (G : Gh) (Post : SV → List Ob → Gh → Prop) : Prop where
  enters : ∀ (args : Array Value) (w : World), (callFunc f args).run P w = .ok (.enter f args) w
  calls : ∀ ρ w ys, Ag (Fr w ρ G) ρ H G w → Rvs ρ args ys → Calls P f ys.toArray w fun e w' => ∃ v sv H' G' ρ', e = .returned v ∧ Post sv H' G' ∧ Ag (Fr w ρ G) ρ' H' G' w' ∧ Rv ρ' sv v

/-- The end of a walk: what is behind it can be told as Post says. -/
structure Fin (E : Env) (Post : SV → List Ob → Gh → Prop) (sv : SV) (s : St) : Prop where
  out : ∀ ρ w v, Ag E ρ s.H s.G w → Rv ρ sv v → ∃ ρ' H' G' sv', Post sv' H' G' ∧ Ag E ρ' H' G' w ∧ Rv ρ' sv' v

theorem enters_of {P : Program} {f : FuncId} {fn : Func} {c : Code} (hf : P.funcs[f]? = some fn) (hname : (fn.name == "runtime.NumGoroutine") = false) (hb : fn.body = some c) :
    ∀ (args : Array Value) (w : World), (callFunc f args).run P w = .ok (.enter f args) w := by
  intro args w
  have h1 : fn.name ≠ "runtime.NumGoroutine" := by simpa using hname
  simp [callFunc, hf, h1, hb, mark]

theorem fn_of {P : Program} (hm : P.follows .mixedOrders = true) (Pl : List (Nat × Plan2)) {f : FuncId} {fn : Func} {body : Code} (hf : P.funcs[f]? = some fn) (hb : fn.body = some body)
    (hname : (fn.name == "runtime.NumGoroutine") = false) {args : List SV} {H : List Ob} {G : Gh} {Post : SV → List Ob → Gh → Prop}
    (hS : ∀ E : Env, E.ρ0.length = H.length → forceSp (args ++ List.replicate (fn.ntmps - args.length) (.v undef)) fun fr => sxC P E Pl body (Kfin P fn.results.toList (Fin E Post)) ⟨fr, H, G⟩) : Ct P f args H G Post := by
  refine ⟨enters_of hf hname hb, fun ρ w ys hA hargs => ?_⟩
  refine (sx_calls hm Pl hf hb rfl rfl hA hargs (hS _ hA.len)).mono fun e w' hh => ?_
  rcases hh with ⟨v, sv, s', ρ', rfl, hfin, hA', hr⟩ | ⟨x, H', G', ρ', rfl, hp, hA'⟩
  case inr => exact hp.elim
  obtain ⟨ρ2, H2, G2, sv2, hp, hA2, hr2⟩ := hfin.out ρ' w' v hA' hr
  exact ⟨v, sv2, H2, G2, ρ2, rfl, hp, hA2, hr2⟩

/-- A selection of the objects at the end. -/
theorem fin_sel {Post : SV → List Ob → Gh → Prop} {sv : SV} {s : St} (n : Nat) (hn : E.ρ0.length ≤ n) (keep : List Nat) (sv' : SV) (H' : List Ob) (hnd : keep.Nodup) (hk : ∀ i, i < n → keep[i]? = some i)
    (hsub : subH keep s.H.length s.H keep H') (hsv : sv = sv'.map (rn keep s.H.length)) (hp : Post sv' H' s.G) : Fin E Post sv s := by
  refine ⟨fun ρ' w' v hA' hr => ?_⟩
  subst hsv
  have hA2 := hA'.sub hsub hnd
  have hkeep : ∀ (i : Nat) x, (pick ρ' keep)[i]? = some x → ∃ k, keep[i]? = some k ∧ ρ'[k]? = some x := by
    intro i x hx
    obtain ⟨k, hk', rfl⟩ := pick_get hx
    have hi : i < H'.length := by rw [subH_len hsub]; exact (List.getElem?_eq_some_iff.1 hk').1
    obtain ⟨k', hk'', hH⟩ := subH_get hsub i _ (List.getElem?_eq_getElem hi)
    rw [hk'] at hk''; simp at hk''; subst hk''
    have : k < ρ'.length := by rw [hA'.len]; exact (List.getElem?_eq_some_iff.1 hH).1
    exact ⟨k, hk', by simp [List.getElem?_eq_getElem this]⟩
  refine ⟨pick ρ' keep, H', s.G, sv', hp, ?_, hr.bwd (rn_bwd hA'.len)⟩
  refine ⟨hA2.len, hA2.obs, hA2.apart, ?_, hA'.ext, hA'.frame, hA'.size, hA'.os, hA'.tape, hA'.output, ?_, hA'.gold, hA'.gnew⟩
  · intro i x b hx hxb
    obtain ⟨k, hk', hkx⟩ := hkeep i x hx
    exact hA'.own k x b hkx hxb
  · intro i a hi
    have h1 := hA'.old i a hi
    have hin : i < n := Nat.lt_of_lt_of_le (List.getElem?_eq_some_iff.1 hi).1 hn
    unfold pick
    rw [List.getElem?_map, hk i hin]
    simp [h1]

/-! ### a call by a contract -/
def setAll {α : Type} : List α → List Nat → List α → List α
  | l, k :: ks, x :: xs => setAll (l.set k x) ks xs
  | l, _, _ => l
theorem setAll_length {α : Type} : ∀ (l : List α) (ks : List Nat) (xs : List α), (setAll l ks xs).length = l.length
  | l, k :: ks, x :: xs => by rw [setAll, setAll_length]; simp
  | l, [], _ => by simp [setAll]
  | l, _ :: _, [] => by simp [setAll]
theorem setAll_other {α : Type} : ∀ (l : List α) (ks : List Nat) (xs : List α) (j : Nat), j ∉ ks → (setAll l ks xs)[j]? = l[j]?
  | l, k :: ks, x :: xs, j, h => by
    rw [setAll, setAll_other _ ks xs j (fun hh => h (List.mem_cons_of_mem _ hh)), List.getElem?_set_ne (fun e => h (by simp [e]))]
  | l, [], _, _, _ => by simp [setAll]
  | l, _ :: _, [], _, _ => by simp [setAll]
theorem setAll_get {α : Type} : ∀ (l : List α) (ks : List Nat) (xs : List α) (i k : Nat) (x : α), ks.Nodup → ks[i]? = some k → xs[i]? = some x → k < l.length → (setAll l ks xs)[k]? = some x
  | l, k :: ks, x :: xs, 0, k', x', hn, hk, hx, hl => by
    simp at hk hx; subst hk hx
    rw [setAll, setAll_other _ _ _ _ (List.nodup_cons.1 hn).1, List.getElem?_set_self hl]
  | l, k :: ks, x :: xs, i + 1, k', x', hn, hk, hx, hl => by
    rw [setAll]
    exact setAll_get _ ks xs i k' x' (List.nodup_cons.1 hn).2 (by simpa using hk) (by simpa using hx) (by simpa using hl)
  | l, [], _, i, k, x, _, hk, _, _ => by simp at hk
  | l, _ :: _, [], i, k, x, _, _, hx, _ => by simp at hx

/-- The objects of m that are no cells: their slices are gone behind the call. -/
def killOf (H : List Ob) : List Nat → List Nat
  | [] => []
  | k :: ks => match nth H k with
    | some (.cells _ _) => killOf H ks
    | _ => k :: killOf H ks
theorem killOf_ok {H : List Ob} : ∀ {m : List Nat} {k : Nat}, k ∈ m → k ∉ killOf H m → ∃ T xs, H[k]? = some (.cells T xs)
  | [], _, h, _ => by simp at h
  | k0 :: ks, k, h, hn => by
    simp only [killOf, nth_eq] at hn
    split at hn
    · rename_i T xs hk
      rcases List.mem_cons.1 h with rfl | h
      · exact ⟨T, xs, hk⟩
      · exact killOf_ok h hn
    · rcases List.mem_cons.1 h with rfl | h
      · exact absurd (by simp) hn
      · exact killOf_ok h (fun hh => hn (List.mem_cons_of_mem _ hh))

def obmaps (r : Nat → Option Nat) : List Ob → List Ob
  | [] => []
  | ob :: l => ob.map r :: obmaps r l
theorem obmaps_eq (r : Nat → Option Nat) : ∀ l, obmaps r l = l.map (Ob.map r)
  | [] => rfl
  | ob :: l => by simp [obmaps, obmaps_eq r l]
/-- The caller's state behind the call. -/
def callEnd (m : List Nat) (s : St) (sv : SV) (H' : List Ob) (G' : Gh) (K : List Nat → SV → St → Prop) : Prop :=
  match killOf s.H m with
  | [] => s.un fun fr H _ => forceObs (obmaps (rn m H.length) H') fun O => forceSp (setAll H m O ++ O.drop m.length) fun H2 => forceSV (sv.map (rn m H.length)) fun sv' => K m sv' ⟨fr, H2, G'⟩
  | q :: qs => s.un fun fr H _ => forceL (maps (km (q :: qs)) fr) fun fr' =>
    forceObs (setAll (obmaps (km (q :: qs)) H) m (obmaps (rn m H.length) H') ++ (obmaps (rn m H.length) H').drop m.length) fun H2 =>
      forceSV (sv.map (rn m H.length)) fun sv' => K m sv' ⟨fr', H2, G'⟩
mutual
theorem SV.map_id0 {r : Nat → Option Nat} (hr : ∀ i, r i = some i) : ∀ (x : SV), x.map r = x
  | .v _ => rfl
  | .p i o => by simp [SV.map, hr]
  | .s i => by simp [SV.map, hr]
  | .f fn a c => by simp [SV.map, maps_id0 hr a, maps_id0 hr c]
  | .agg xs => by simp [SV.map, maps_id0 hr xs]
  | .tup xs => by simp [SV.map, maps_id0 hr xs]
  | .lit _ => rfl
  | .dead => rfl
theorem maps_id0 {r : Nat → Option Nat} (hr : ∀ i, r i = some i) : ∀ (xs : List SV), maps r xs = xs
  | [] => rfl
  | x :: xs => by simp [maps, SV.map_id0 hr x, maps_id0 hr xs]
end
theorem obmaps_id0 {r : Nat → Option Nat} (hr : ∀ i, r i = some i) : ∀ (l : List Ob), obmaps r l = l
  | [] => rfl
  | ob :: l => by
    rw [obmaps, obmaps_id0 hr l]
    cases ob <;> simp [Ob.map, maps_id0 hr]
theorem km_nil0 : ∀ i, km [] i = some i := fun _ => rfl
theorem callEnd_eq (m : List Nat) (s : St) (sv : SV) (H' : List Ob) (G' : Gh) (K : List Nat → SV → St → Prop) : callEnd m s sv H' G' K =
    K m (sv.map (rn m s.H.length)) ⟨maps (km (killOf s.H m)) s.fr, setAll (obmaps (km (killOf s.H m)) s.H) m (obmaps (rn m s.H.length) H') ++ (obmaps (rn m s.H.length) H').drop m.length, G'⟩ := by
  unfold callEnd
  split
  · rename_i h; rw [h, maps_id0 km_nil0, obmaps_id0 km_nil0, St.un_eq, forceObs_eq, forceSp_eq, forceSV_eq]
  · rename_i q qs h; rw [h, St.un_eq, forceL_eq, forceObs_eq, forceSV_eq]

theorem Ag.back (h : Ag E ρ H G w) {m : List Nat} {H0 : List Ob} (hs : subH m H.length H m H0) (hm : m.Nodup) {w' : World} {ρa : List Value} {Ha : List Ob} {G' : Gh} (hlen : m.length ≤ Ha.length)
    (hA : Ag (Fr w (pick ρ m) G) ρa Ha G' w') :
    ∃ ρ', Ag E ρ' (setAll (obmaps (km (killOf H m)) H) m (obmaps (rn m H.length) Ha) ++ (obmaps (rn m H.length) Ha).drop m.length) G' w' ∧
      (∀ i k x, rn m H.length i = some k → ρa[i]? = some x → ρ'[k]? = some x) ∧ (∀ i k x, km (killOf H m) i = some k → ρ[i]? = some x → ρ'[k]? = some x) ∧ Fp ρ ρ' G G' m w w' := by
  have hmlt : ∀ (i k : Nat), m[i]? = some k → k < H.length := by
    intro i k hk
    have hi : i < H0.length := by rw [subH_len hs]; exact (List.getElem?_eq_some_iff.1 hk).1
    obtain ⟨k', hk', hH⟩ := subH_get hs i _ (List.getElem?_eq_getElem hi)
    rw [hk] at hk'; simp at hk'; subst hk'
    exact (List.getElem?_eq_some_iff.1 hH).1
  have hmem : ∀ k, k ∈ m → ∃ i, m[i]? = some k := fun k hk => List.getElem?_of_mem hk
  have hra : m.length ≤ ρa.length := by rw [hA.len]; exact hlen
  let ρ' := setAll ρ m ρa ++ ρa.drop m.length
  have hl1 : (setAll ρ m ρa).length = H.length := by rw [setAll_length, h.len]
  have hN : ∀ k, k < H.length → k ∉ m → ρ'[k]? = ρ[k]? := fun k hk hkm => by
    show (setAll ρ m ρa ++ ρa.drop m.length)[k]? = _
    rw [List.getElem?_append_left (by rw [hl1]; exact hk), setAll_other _ _ _ _ hkm]
  have hM : ∀ (i k : Nat) x, m[i]? = some k → ρa[i]? = some x → ρ'[k]? = some x := fun i k x hk hx => by
    show (setAll ρ m ρa ++ ρa.drop m.length)[k]? = _
    rw [List.getElem?_append_left (by rw [hl1]; exact hmlt i k hk)]
    exact setAll_get ρ m ρa i k x hm hk hx (by rw [h.len]; exact hmlt i k hk)
  have hX : ∀ (i : Nat) x, m.length ≤ i → ρa[i]? = some x → ρ'[H.length + (i - m.length)]? = some x := fun i x hi hx => by
    show (setAll ρ m ρa ++ ρa.drop m.length)[H.length + (i - m.length)]? = _
    rw [List.getElem?_append_right (by rw [hl1]; omega), hl1, List.getElem?_drop]
    rw [show m.length + (H.length + (i - m.length) - H.length) = i by omega]; exact hx
  have hr : ∀ i k x, rn m H.length i = some k → ρa[i]? = some x → ρ'[k]? = some x := by
    intro i k x hk hx
    unfold rn at hk
    rw [nth_eq] at hk
    cases hmi : m[i]? with
    | some k' => rw [hmi] at hk; simp at hk; subst hk; exact hM i _ x hmi hx
    | none => rw [hmi] at hk; simp at hk; subst hk; exact hX i x (by simpa using hmi) hx
  have hold : ∀ (i k : Nat) T xs, m[i]? = some k → H[k]? = some (.cells T xs) → ∀ x, ρ[k]? = some x → ρ'[k]? = some x := by
    intro i k T xs hk hH x hx
    have ho := h.obs k _ x hH hx
    simp only [ObOK] at ho
    obtain ⟨b, cs, rfl, _⟩ := ho
    exact hM i k _ hk (hA.old i ⟨b, 0, none⟩ (by show (pick ρ m)[i]? = _; unfold pick; rw [List.getElem?_map, hk]; simp [hx]))
  have hkm : ∀ i k x, km (killOf H m) i = some k → ρ[i]? = some x → ρ'[k]? = some x := by
    intro i k x hk hx
    unfold km at hk
    split at hk <;> simp at hk
    subst hk
    rename_i hnk
    have hi : i < H.length := by rw [← h.len]; exact (List.getElem?_eq_some_iff.1 hx).1
    by_cases him : i ∈ m
    · obtain ⟨j, hj⟩ := hmem i him
      obtain ⟨T, xs, hH⟩ := killOf_ok him (fun hh => by rw [memN_iff.2 hh] at hnk; simp at hnk)
      exact hold j i T xs hj hH x hx
    · rw [hN i hi him]; exact hx
  -- who is who
  have whoρ : ∀ (j : Nat) x, ρ'[j]? = some x → (j < H.length ∧ j ∉ m ∧ ρ[j]? = some x) ∨ ∃ i : Nat, ρa[i]? = some x ∧ ((m[i]? = some j) ∨ (m.length ≤ i ∧ j = H.length + (i - m.length))) := by
    intro j x hx
    by_cases hj : j < H.length
    · by_cases hjm : j ∈ m
      · obtain ⟨i, hi⟩ := hmem j hjm
        have : i < ρa.length := Nat.lt_of_lt_of_le (List.getElem?_eq_some_iff.1 hi).1 hra
        have h1 := hM i j _ hi (List.getElem?_eq_getElem this)
        rw [hx] at h1
        exact .inr ⟨i, by rw [List.getElem?_eq_getElem this]; exact h1.symm, .inl hi⟩
      · rw [hN j hj hjm] at hx; exact .inl ⟨hj, hjm, hx⟩
    · have hx' : (setAll ρ m ρa ++ ρa.drop m.length)[j]? = some x := hx
      rw [List.getElem?_append_right (by rw [hl1]; omega), hl1, List.getElem?_drop] at hx'
      exact .inr ⟨m.length + (j - H.length), hx', .inr ⟨by omega, by omega⟩⟩
  have uniq : ∀ (i i' j : Nat), ((m[i]? = some j) ∨ (m.length ≤ i ∧ j = H.length + (i - m.length))) → ((m[i']? = some j) ∨ (m.length ≤ i' ∧ j = H.length + (i' - m.length))) → i = i' := by
    intro i i' j h1 h2
    rcases h1 with h1 | ⟨h1, h1'⟩ <;> rcases h2 with h2 | ⟨h2, h2'⟩
    · exact (List.getElem?_inj (List.getElem?_eq_some_iff.1 h1).1 hm).1 (h1.trans h2.symm)
    · have := hmlt i j h1; omega
    · have := hmlt i' j h2; omega
    · omega
  have uniq' : ∀ (i j j' : Nat), ((m[i]? = some j) ∨ (m.length ≤ i ∧ j = H.length + (i - m.length))) → ((m[i]? = some j') ∨ (m.length ≤ i ∧ j' = H.length + (i - m.length))) → j = j' := by
    intro i j j' h1 h2
    rcases h1 with h1 | ⟨h1, h1'⟩ <;> rcases h2 with h2 | ⟨h2, h2'⟩
    · rw [h1] at h2; simpa using h2
    · have := (List.getElem?_eq_some_iff.1 h1).1; omega
    · have := (List.getElem?_eq_some_iff.1 h2).1; omega
    · omega
  have fof : ∀ b, Fof (pick ρ m) b → ∃ (i k : Nat) (x : Value), m[i]? = some k ∧ ρ[k]? = some x ∧ blkOf x = some b := by
    rintro b ⟨i, x, hx, hxb⟩
    obtain ⟨k, hk, rfl⟩ := pick_get hx
    have : k < ρ.length := by rw [h.len]; exact hmlt i k hk
    rw [List.getElem?_eq_getElem this] at hxb
    exact ⟨i, k, _, hk, List.getElem?_eq_getElem this, hxb⟩
  have away : ∀ (j : Nat) x b, j ∉ m → ρ[j]? = some x → blkOf x = some b → b < w.heap.size ∧ ¬ Fof (pick ρ m) b := by
    intro j x b hjm hx hxb
    refine ⟨(h.own j x b hx hxb).1, fun hF => ?_⟩
    obtain ⟨i, k, y, hk, hy, hyb⟩ := fof b hF
    have := h.apart j k x y b hx hy hxb hyb
    subst this
    exact hjm (List.mem_of_getElem? hk)
  have keep : ∀ b, b < w.heap.size → ¬ Fof (pick ρ m) b → w'.heap[b]? = w.heap[b]? := hA.frame
  have calleeB : ∀ (i : Nat) x b, ρa[i]? = some x → blkOf x = some b → b < w'.heap.size ∧ G' b = none ∧ (w.heap.size ≤ b ∨ Fof (pick ρ m) b) := hA.own
  refine ⟨ρ', ⟨?_, ?_, ?_, ?_, hA.ext, ?_, Nat.le_trans h.size hA.size, hA.os.trans h.os, hA.tape.trans h.tape, hA.output.trans h.output, ?_, fun b o hb => hA.gold b o (h.gold b o hb), ?_⟩, hr, hkm, ?_⟩
  · simp [ρ', setAll_length, obmaps_eq, h.len, hA.len]
  · intro j ob x hob hx
    have hl2 : (setAll (obmaps (km (killOf H m)) H) m (obmaps (rn m H.length) Ha)).length = H.length := by rw [setAll_length, obmaps_eq]; simp
    have fin : ∀ (i : Nat), ρa[i]? = some x → ((m[i]? = some j) ∨ (m.length ≤ i ∧ j = H.length + (i - m.length))) → ObOK ρ' w' ob x := by
      intro i hi hij
      have hiH : i < Ha.length := by rw [← hA.len]; exact (List.getElem?_eq_some_iff.1 hi).1
      have hHa := List.getElem?_eq_getElem hiH
      have hob' : ob = (Ha[i]).map (rn m H.length) := by
        rcases hij with hk | ⟨hge, rfl⟩
        · rw [List.getElem?_append_left (by rw [hl2]; exact hmlt i j hk)] at hob
          have := setAll_get (obmaps (km (killOf H m)) H) m (obmaps (rn m H.length) Ha) i j ((Ha[i]).map (rn m H.length)) hm hk (by rw [obmaps_eq, List.getElem?_map, hHa]; rfl) (by rw [obmaps_eq]; simpa using hmlt i j hk)
          rw [this] at hob; simpa using hob.symm
        · rw [List.getElem?_append_right (by rw [hl2]; omega), hl2, List.getElem?_drop, show m.length + (H.length + (i - m.length) - H.length) = i by omega, obmaps_eq, List.getElem?_map, hHa] at hob
          simpa using hob.symm
      rw [hob']
      exact (hA.obs i _ x hHa hi).fwd hr
    rcases whoρ j x hx with ⟨hj, hjm, hx'⟩ | ⟨i, hi, hij⟩
    · rw [List.getElem?_append_left (by rw [hl2]; exact hj), setAll_other _ _ _ _ hjm, obmaps_eq, List.getElem?_map] at hob
      obtain ⟨ob0, h0, rfl⟩ := Option.map_eq_some_iff.1 hob
      refine ((h.obs j ob0 x h0 hx').mono fun b hb => ?_).fwd hkm
      obtain ⟨h1, h2⟩ := away j x b hjm hx' hb
      exact keep b h1 h2
    · exact fin i hi hij
  · intro j k x y b hx hy hxb hyb
    rcases whoρ j x hx with ⟨hj, hjm, hx'⟩ | ⟨i, hi, hij⟩ <;> rcases whoρ k y hy with ⟨hk, hkm', hy'⟩ | ⟨i', hi', hij'⟩
    · exact h.apart j k x y b hx' hy' hxb hyb
    · obtain ⟨h1, h2⟩ := away j x b hjm hx' hxb
      rcases (calleeB i' y b hi' hyb).2.2 with h3 | h3
      · omega
      · exact absurd h3 h2
    · obtain ⟨h1, h2⟩ := away k y b hkm' hy' hyb
      rcases (calleeB i x b hi hxb).2.2 with h3 | h3
      · omega
      · exact absurd h3 h2
    · have := hA.apart i i' x y b hi hi' hxb hyb
      subst this
      exact uniq' i j k hij hij'
  · intro j x b hx hxb
    rcases whoρ j x hx with ⟨hj, hjm, hx'⟩ | ⟨i, hi, hij⟩
    · obtain ⟨h1, h2, h3⟩ := h.own j x b hx' hxb
      refine ⟨Nat.lt_of_lt_of_le h1 hA.size, ?_, h3⟩
      cases hg : G' b with
      | none => rfl
      | some o =>
        rcases hA.gnew b o hg with h4 | h4 | h4
        · have h4' : G b = some o := h4
          rw [h2] at h4'; simp at h4'
        · have h4' : w.heap.size ≤ b := h4
          omega
        · exact absurd h4 (away j x b hjm hx' hxb).2
    · obtain ⟨h1, h2, h3⟩ := calleeB i x b hi hxb
      refine ⟨h1, h2, ?_⟩
      rcases h3 with h3 | h3
      · exact .inl (Nat.le_trans h.size h3)
      · obtain ⟨i', k, y, hk, hy, hyb⟩ := fof b h3
        exact (h.own k y b hy hyb).2.2
  · intro b hb hF
    have : ¬ Fof (pick ρ m) b := fun hf => by
      obtain ⟨i', k, y, hk, hy, hyb⟩ := fof b hf
      rcases (h.own k y b hy hyb).2.2 with h3 | h3
      · omega
      · exact hF h3
    rw [keep b (Nat.lt_of_lt_of_le hb h.size) this]; exact h.frame b hb hF
  · intro i a hi
    have h1 := h.old i a hi
    have hil : i < H.length := by rw [← h.len]; exact (List.getElem?_eq_some_iff.1 h1).1
    by_cases him : i ∈ m
    · obtain ⟨j, hj⟩ := hmem i him
      exact hM j i _ hj (hA.old j a (by show (pick ρ m)[j]? = _; unfold pick; rw [List.getElem?_map, hj]; simp [h1]))
    · rw [hN i hil him]; exact h1
  · intro b o hb
    rcases hA.gnew b o hb with h4 | h4 | h4
    · exact h.gnew b o h4
    · exact .inr (.inl (Nat.le_trans h.size h4))
    · obtain ⟨i', k, y, hk, hy, hyb⟩ := fof b h4
      exact .inr (h.own k y b hy hyb).2.2
  · refine ⟨fun b hb hT => keep b hb fun hf => ?_, fun i x him hx => ?_, hA.gold⟩
    · obtain ⟨i', k, y, hk, hy, hyb⟩ := fof b hf
      exact hT k (List.mem_of_getElem? hk) y hy hyb
    · have hil : i < H.length := by rw [← h.len]; exact (List.getElem?_eq_some_iff.1 hx).1
      rw [hN i hil him]; exact hx

/-- A call of a function with a contract. m: the caller's objects that are handed on. -/
theorem call_fn {P : Program} {f : FuncId} {args args0 : List SV} {s : St} {K : List Nat → SV → St → Prop} {H0 : List Ob} {Post : SV → List Ob → Gh → Prop} (m : List Nat)
    (hf : Ct P f args0 H0 s.G Post) (hargs : args = maps (rn m s.H.length) args0) (hs : subH m s.H.length s.H m H0) (hm : m.Nodup)
    (hK : ∀ sv H' G', Post sv H' G' → (∀ b o, s.G b = some o → G' b = some o) → m.length ≤ H'.length ∧ callEnd m s sv H' G' K) : CallVC P E f args s K := by
  refine ⟨hf.enters, fun ρ w ys hA hargs' => ?_⟩
  subst hargs
  have hA0 := hA.sub hs hm
  refine (hf.calls (pick ρ m) w ys hA0 (Rvs.bwd (rn_bwd hA.len) hargs')).mono fun e w' hh => ?_
  obtain ⟨v, sv, H', G', ρ', rfl, hp, hA', hr⟩ := hh
  obtain ⟨hlen, hend⟩ := hK sv H' G' hp hA'.gold
  obtain ⟨ρ2, hA2, hr2, hkm2, hfp⟩ := hA.back hs hm hlen hA'
  rw [callEnd_eq] at hend
  exact .inl ⟨v, m, _, _, ρ2, rfl, hend, hA2, Rv.fwd hr2 hr, fun zs hz => Rvs.fwd hkm2 hz, hfp⟩
end
end Go.SX

namespace Go.SX
set_option linter.unusedVariables false
set_option linter.unusedSimpArgs false

def keepc (n : Nat) (keep : List Nat) : Bool := decide keep.Nodup && (List.range n).all fun i => keep[i]? == some i
theorem fin_mk {E : Env} {n : Nat} (hE : E.ρ0.length = n) {sv : SV} {s : St} {Post : SV → List Ob → Gh → Prop} (keep : List Nat) (sv' : SV) (H' : List Ob) (hk : keepc n keep = true) (hs : subH keep s.H.length s.H keep H')
    (hv : sv = sv'.map (rn keep s.H.length)) (hp : Post sv' H' s.G) : Fin E Post sv s := by
  simp only [keepc, Bool.and_eq_true, decide_eq_true_eq] at hk
  exact fin_sel n (Nat.le_of_eq hE) keep sv' H' hk.1 (fun i hi => by simpa using List.all_eq_true.1 hk.2 i (by simpa using hi)) hs hv hp

def ltb (i k : Nat) : Bool := Nat.ble (i + 1) k
mutual
def bd (k : Nat) : SV → Bool
  | .v _ => true
  | .p i _ => ltb i k
  | .s i => ltb i k
  | .f _ a c => bds k a && bds k c
  | .agg xs => bds k xs
  | .tup xs => bds k xs
  | .lit _ => true
  | .dead => true
def bds (k : Nat) : List SV → Bool
  | [] => true
  | x :: xs => bd k x && bds k xs
end
def bdo (k : Nat) : List Ob → Bool
  | [] => true
  | .cells _ xs :: l => bds k xs && bdo k l
  | .row _ _ _ _ :: l => bdo k l
  | .lit _ _ xs :: l => bds k xs && bdo k l
  | .gone :: l => bdo k l

theorem rn_range {k N i : Nat} (h : ltb i k = true) : rn (List.range k) N i = some i := by
  have : i < k := by unfold ltb at h; exact Nat.le_of_ble_eq_true h
  simp [rn, nth_eq, this]
mutual
theorem bd_map {k N : Nat} : ∀ {x : SV}, bd k x = true → x.map (rn (List.range k) N) = x
  | .v _, _ => rfl
  | .p i o, h => by simp only [bd] at h; simp [SV.map, rn_range h]
  | .s i, h => by simp only [bd] at h; simp [SV.map, rn_range h]
  | .f fn a c, h => by simp only [bd, Bool.and_eq_true] at h; simp [SV.map, bds_map h.1, bds_map h.2]
  | .agg xs, h => by simp only [bd] at h; simp [SV.map, bds_map h]
  | .tup xs, h => by simp only [bd] at h; simp [SV.map, bds_map h]
  | .lit _, _ => rfl
  | .dead, _ => rfl
theorem bds_map {k N : Nat} : ∀ {xs : List SV}, bds k xs = true → maps (rn (List.range k) N) xs = xs
  | [], _ => rfl
  | x :: xs, h => by simp only [bds, Bool.and_eq_true] at h; simp [maps, bd_map h.1, bds_map h.2]
end
theorem bdo_map {k N : Nat} : ∀ {l : List Ob}, bdo k l = true → ∀ ob ∈ l, ob.map (rn (List.range k) N) = ob
  | [], _, ob, h => by simp at h
  | .cells T xs :: l, h, ob, hm => by
    simp only [bdo, Bool.and_eq_true] at h
    rcases List.mem_cons.1 hm with rfl | hm
    · simp [Ob.map, bds_map h.1]
    · exact bdo_map h.2 ob hm
  | .row e sz n xs :: l, h, ob, hm => by
    simp only [bdo] at h
    rcases List.mem_cons.1 hm with rfl | hm
    · rfl
    · exact bdo_map h ob hm
  | .lit T n xs :: l, h, ob, hm => by
    simp only [bdo, Bool.and_eq_true] at h
    rcases List.mem_cons.1 hm with rfl | hm
    · simp [Ob.map, bds_map h.1]
    · exact bdo_map h.2 ob hm
  | .gone :: l, h, ob, hm => by
    simp only [bdo] at h
    rcases List.mem_cons.1 hm with rfl | hm
    · rfl
    · exact bdo_map h ob hm

/-- The first k objects are handed back as they are. -/
theorem fin_id {E : Env} {n : Nat} (hE : E.ρ0.length = n) {sv : SV} {s : St} {Post : SV → List Ob → Gh → Prop} (k : Nat) (hn : Nat.ble n k = true) (hb : bdo k (s.H.take k) = true) (hl : Nat.beq (s.H.take k).length k = true) (hv : bd k sv = true)
    (hp : Post sv (s.H.take k) s.G) : Fin E Post sv s := by
  have hl' : (s.H.take k).length = k := Nat.eq_of_beq_eq_true hl
  have hmap := bdo_map (N := s.H.length) hb
  refine fin_sel n (Nat.le_of_eq hE) (List.range k) sv (s.H.take k) List.nodup_range (fun i hi => by have := Nat.le_of_ble_eq_true hn; rw [List.getElem?_range (by omega)]) ?_ (bd_map hv).symm hp
  have key : ∀ (j : Nat) (obs : List Ob), (∀ (i : Nat) ob, obs[i]? = some ob → (s.H.take k)[j + i]? = some ob) → subH (List.range k) s.H.length s.H (List.range' j obs.length) obs := by
    intro j obs
    induction obs generalizing j with
    | nil => intro _; exact trivial
    | cons ob obs ih =>
      intro h
      have h0 := h 0 ob (by simp)
      simp only [List.length_cons, List.range'_succ, subH]
      refine ⟨?_, ih (j + 1) fun i ob' hi => ?_⟩
      · have h0' : (s.H.take k)[j]? = some ob := by simpa using h0
        rw [hmap ob (List.mem_of_getElem? h0'), nth_eq]
        rw [List.getElem?_take] at h0'
        split at h0'
        · exact h0'
        · simp at h0'
      · have := h (i + 1) ob' (by simpa using hi)
        rwa [show j + (i + 1) = j + 1 + i by omega] at this
  have := key 0 (s.H.take k) (fun i ob hi => by rw [Nat.zero_add]; exact hi)
  rw [hl', ← List.range_eq_range'] at this
  exact this

/-- Behind a call that was handed cells alone. -/
theorem callEnd_cells {m : List Nat} {s : St} {sv : SV} {H' : List Ob} {G' : Gh} {K : List Nat → SV → St → Prop} (hk : killOf s.H m = [])
    (h : K m (sv.map (rn m s.H.length)) ⟨s.fr, setAll s.H m (obmaps (rn m s.H.length) H') ++ (obmaps (rn m s.H.length) H').drop m.length, G'⟩) : callEnd m s sv H' G' K := by
  rw [callEnd_eq, hk, maps_id0 km_nil0, obmaps_id0 km_nil0]
  exact h

/-- All objects are handed back as they are. -/
theorem fin_all {E : Env} {Post : SV → List Ob → Gh → Prop} {sv : SV} {s : St} (hp : Post sv s.H s.G) : Fin E Post sv s :=
  ⟨fun ρ w v hA hr => ⟨ρ, s.H, s.G, sv, hp, hA, hr⟩⟩

/-- A frame of n slots of which some are known. -/
def mkF (n : Nat) (l : List (Nat × SV)) : List SV := go (List.replicate n .dead) l
where go : List SV → List (Nat × SV) → List SV
  | fr, [] => fr
  | fr, (i, x) :: l => go (fr.set i x) l

section
variable {E : Env} {ρ : List Value} {H : List Ob} {G : Gh} {w : World}
/-- At the end of a walk: object i is done. -/
theorem fin_done {Post : SV → List Ob → Gh → Prop} {sv : SV} {s : St} (i : Nat) {e sz n : Nat} {xs : List Value} (hH : nth s.H i = some (.row e sz n xs)) (h1 : ∀ v ∈ xs, v.oneCell' = true)
    (h : ∀ A c G', Ghe s.G G' → Sl G' A n c sz xs → Fin E Post (sv.fz i (.slice A n c)) ⟨s.fr, (s.H.map (·.fz i (.slice A n c))).set i .gone, G'⟩) : Fin E Post sv s := by
  refine ⟨fun ρ w v hA hr => ?_⟩
  rw [nth_eq] at hH
  obtain ⟨A, c, G', hρ, hg, hsl, hA'⟩ := hA.done hH h1
  exact (h A c G' hg hsl).out _ w v hA' (hr.fz_ hρ _)

/-- At a call: object i is done. -/
theorem call_done {P : Program} {f : FuncId} {args : List SV} {s : St} {K : List Nat → SV → St → Prop} (i : Nat) {e sz n : Nat} {xs : List Value} (hH : nth s.H i = some (.row e sz n xs)) (h1 : ∀ v ∈ xs, v.oneCell' = true)
    (h : ∀ A c G', Ghe s.G G' → Sl G' A n c sz xs → CallVC P E f (fzs i (.slice A n c) args) ⟨fzs i (.slice A n c) s.fr, (s.H.map (·.fz i (.slice A n c))).set i .gone, G'⟩ fun T => K (i :: T))
    (he : ∀ (args : Array Value) (w : World), (callFunc f args).run P w = .ok (.enter f args) w) : CallVC P E f args s K := by
  refine ⟨he, fun ρ w ys hA hargs => ?_⟩
  rw [nth_eq] at hH
  obtain ⟨A, c, G', hρ, hg, hsl, hA'⟩ := hA.done hH h1
  refine ((h A c G' hg hsl).calls _ w ys hA' (hargs.fz_ hρ _)).mono fun e w' hh => ?_
  rcases hh with ⟨v, T, sv, s', ρ', rfl, hk, hA2, hr, hfr, hfp⟩ | hp
  case inr => exact .inr hp
  refine .inl ⟨v, i :: T, sv, s', ρ', rfl, hk, hA2, hr, fun zs hz => hfr zs (hz.fz_ hρ _), fun b hb hT => ?_, fun j x hj hx => ?_, fun b o hb => hfp.gh b o (hg b o hb)⟩
  · refine hfp.blk b hb fun j hj y hy => ?_
    by_cases hij : i = j
    · subst hij
      rw [List.getElem?_set_self (List.getElem?_eq_some_iff.1 hρ).1] at hy
      simp at hy; subst hy; simp [blkOf]
    · rw [List.getElem?_set_ne hij] at hy
      exact hT j (List.mem_cons_of_mem _ hj) y hy
  · have hij : i ≠ j := fun e => hj (by simp [e])
    exact hfp.ids j x (fun hh => hj (List.mem_cons_of_mem _ hh)) (by rw [List.getElem?_set_ne hij]; exact hx)
end
end Go.SX

namespace Go.SX
open Go.RowKit
set_option linter.unusedVariables false

def heapG (W : World) : Gh := fun b => W.heap[b]?
theorem Ag.start (W : World) : Ag (Fr W [] (heapG W)) [] [] (heapG W) W :=
  ⟨rfl, fun i ob x h => by simp at h, fun i j x y b h => by simp at h, fun i x b h => by simp at h, fun b o h => h, fun _ _ _ => rfl, Nat.le_refl _, rfl, rfl, rfl, fun i a h => h, fun b o h => h, fun b o h => .inl h⟩
theorem Ct.law {P : Program} {f : FuncId} {args : List SV} {W : World} {Post : SV → List Ob → Gh → Prop} (h : Ct P f args [] (heapG W) Post) {ys : List Value} (hargs : Rvs [] args ys) :
    Calls P f ys.toArray W fun e W' => ∃ v sv H' G' ρ', e = .returned v ∧ Post sv H' G' ∧ Rv ρ' sv v ∧ Below W.heap.size W W' := by
  refine (h.calls [] W ys (Ag.start W) hargs).mono fun e w' hh => ?_
  obtain ⟨v, sv, H', G', ρ', rfl, hp, hA, hr⟩ := hh
  refine ⟨v, sv, H', G', ρ', rfl, hp, hr, hA.os, hA.tape, hA.output, hA.size, fun k hk => ?_⟩
  exact hA.frame k hk (fun ⟨i, x, hx, _⟩ => by simp at hx)
/-- A slice of integers that lies in the world. -/
theorem sl_ints {W : World} {a : Option Addr} {len cap : Nat} {zs : List Int} {k : IntKind} (h : (a = none ∧ len = 0 ∧ cap = 0 ∧ zs = []) ∨
    ∃ x, a = some x ∧ len ≤ cap ∧ cap ≤ maxLen ∧ len ≤ zs.length ∧ (∀ i, i < zs.length → W.cell? (x.add i) = some (.int k (zs.getD i 0))) ∧ ∀ n ∈ zs, (Lit.int k n).wf = true) :
    Sl (heapG W) a len cap 1 ((zs.take len).map (.int k)) ∧ (zs.take len).length = len ∧ ∀ n ∈ zs.take len, (Lit.int k n).wf = true := by
  rcases h with ⟨rfl, rfl, rfl, rfl⟩ | ⟨x, rfl, h1, h2, h3, h4, h5⟩
  · exact ⟨⟨rfl, Nat.le_refl _, by decide, fun ad h => by simp at h, fun _ => ⟨rfl, rfl⟩, fun v hv => by simp at hv⟩, rfl, fun n hn => by simp at hn⟩
  · refine ⟨⟨by simp [h3], h1, by simpa [maxLen] using h2, fun ad had j v hj => ?_, fun h => by simp at h, fun v hv => ?_⟩, by simp [h3], fun n hn => h5 n (List.mem_of_mem_take hn)⟩
    · simp at had; subst had
      rw [List.getElem?_map] at hj
      obtain ⟨n, hn, rfl⟩ := Option.map_eq_some_iff.1 hj
      rw [List.getElem?_take] at hn
      split at hn
      · have hlt := (List.getElem?_eq_some_iff.1 hn).1
        have := h4 j hlt
        rw [List.getD_eq_getElem?_getD, hn] at this
        exact this
      · simp at hn
    · obtain ⟨n, _, rfl⟩ := List.mem_map.1 hv
      rfl
end Go.SX

namespace Go.SX
set_option linter.unusedVariables false
set_option linter.unusedSimpArgs false

/-- A step of the proof alone: the state may be told in one of the ways of C. -/
structure Gh1 (s : St) (T : List Nat) (C : (SV → SV) → St → Prop) : Prop where
  out : ∀ E ρ w, Ag E ρ s.H s.G w → ∃ g s' ρ', C g s' ∧ Ag E ρ' s'.H s'.G w ∧ (∀ sv v, Rv ρ sv v → Rv ρ' (g sv) v) ∧ (∀ zs, Rvs ρ s.fr zs → Rvs ρ' s'.fr zs) ∧
    (∀ (i : Nat) x, i ∉ T → ρ[i]? = some x → ρ'[i]? = some x) ∧ (∀ (i : Nat) y b, ρ'[i]? = some y → blkOf y = some b → ρ[i]? = some y) ∧ Ghe s.G s'.G

section
variable {E : Env} {ρ : List Value} {H : List Ob} {G : Gh} {w : World}

theorem Fp.gh1 {ρ ρ' ρ'' : List Value} {G G' G'' : Gh} {T T' : List Nat} {w w' : World} (hid : ∀ (i : Nat) x, i ∉ T → ρ[i]? = some x → ρ'[i]? = some x) (hb : ∀ (i : Nat) y b, ρ'[i]? = some y → blkOf y = some b → ρ[i]? = some y) (hg : Ghe G G')
    (h : Fp ρ' ρ'' G' G'' T' w w') : Fp ρ ρ'' G G'' (T ++ T') w w' := by
  refine ⟨fun b hl hn => h.blk b hl fun i hi x hx he => ?_, fun i x hi hx => h.ids i x (fun hh => hi (List.mem_append_right _ hh)) (hid i x (fun hh => hi (List.mem_append_left _ hh)) hx), fun b o ho => h.gh b o (hg b o ho)⟩
  exact hn i (List.mem_append_right _ hi) x (hb i x b hx he) he

theorem loop_gh {P : Program} {body : Code} {s : St} {K : Kont} {T : List Nat} {C : (SV → SV) → St → Prop} (hc : Gh1 s T C) (h : ∀ g s', C g s' → LoopVC P E body s' K) : LoopVC P E body s K := by
  refine ⟨fun Q hW0 hK ρ a w hA hF hd => ?_⟩
  obtain ⟨g, s', ρ', hC, hA', _, hF', _⟩ := hc.out E ρ w hA
  exact (h g s' hC).out Q hW0 hK ρ' a w hA' (hF' _ hF) hd

theorem fin_gh {Post : SV → List Ob → Gh → Prop} {sv : SV} {s : St} {T : List Nat} {C : (SV → SV) → St → Prop} (hc : Gh1 s T C) (h : ∀ g s', C g s' → Fin E Post (g sv) s') : Fin E Post sv s := by
  refine ⟨fun ρ w v hA hr => ?_⟩
  obtain ⟨g, s', ρ', hC, hA', hg, _⟩ := hc.out E ρ w hA
  exact (h g s' hC).out ρ' w v hA' (hg _ _ hr)

def svmap (g : SV → SV) : List SV → List SV
  | [] => []
  | x :: xs => g x :: svmap g xs
theorem Rvs.svmap {ρ ρ' : List Value} {g : SV → SV} (hg : ∀ sv v, Rv ρ sv v → Rv ρ' (g sv) v) : ∀ {xs : List SV} {ys : List Value}, Rvs ρ xs ys → Rvs ρ' (svmap g xs) ys
  | [], _, h => by simpa [Rvs, SX.svmap] using h
  | x :: xs, _, h => by
    simp only [Rvs, SX.svmap] at h ⊢
    obtain ⟨y, yt, rfl, h1, h2⟩ := h
    exact ⟨y, yt, rfl, hg _ _ h1, Rvs.svmap hg h2⟩

theorem call_gh {P : Program} {f : FuncId} {args : List SV} {s : St} {K : List Nat → SV → St → Prop} {T : List Nat} {C : (SV → SV) → St → Prop} (hc : Gh1 s T C)
    (he : ∀ (args : Array Value) (w : World), (callFunc f args).run P w = .ok (.enter f args) w)
    (h : ∀ g s', C g s' → CallVC P E f (svmap g args) s' fun T' => K (T ++ T')) : CallVC P E f args s K := by
  refine ⟨he, fun ρ w ys hA hargs => ?_⟩
  obtain ⟨g, s', ρ', hC, hA', hg, hF', hid, hb, hge⟩ := hc.out E ρ w hA
  refine ((h g s' hC).calls ρ' w ys hA' (hargs.svmap hg)).mono fun e w' hh => ?_
  rcases hh with ⟨v, T', sv, s2, ρ2, rfl, hk, hA2, hr, hfr, hfp⟩ | hp
  case inr => exact .inr hp
  exact .inl ⟨v, T ++ T', sv, s2, ρ2, rfl, hk, hA2, hr, fun zs hz => hfr zs (hF' zs hz), hfp.gh1 hid hb hge⟩

/-- An object is done. -/
def fzSt (k : Nat) (x : Value) (s : St) (G' : Gh) : St := ⟨fzs k x s.fr, (obfz k x s.H).set k .gone, G'⟩
theorem gh_done {s : St} (i : Nat) {e sz n : Nat} {xs : List Value} (hH : nth s.H i = some (.row e sz n xs)) (h1 : ∀ v ∈ xs, v.oneCell' = true) :
    Gh1 s [i] fun g s' => ∃ A c G', Ghe s.G G' ∧ Sl G' A n c sz xs ∧ g = SV.fz i (.slice A n c) ∧ s' = fzSt i (.slice A n c) s G' := by
  refine ⟨fun E ρ w hA => ?_⟩
  rw [nth_eq] at hH
  obtain ⟨A, c, G', hρ, hg, hsl, hA'⟩ := hA.done hH h1
  refine ⟨_, _, ρ.set i .nilFunc, ⟨A, c, G', hg, hsl, rfl, rfl⟩, by unfold fzSt; rw [obfz_eq]; exact hA', fun sv v hr => hr.fz_ hρ _, fun zs hz => hz.fz_ hρ _, fun j x hj hx => ?_, fun j y b hy hb => ?_, hg⟩
  · rw [List.getElem?_set_ne (fun e => hj (by simp [e]))]; exact hx
  · by_cases hij : i = j
    · subst hij
      rw [List.getElem?_set_self (List.getElem?_eq_some_iff.1 hρ).1] at hy
      simp at hy; subst hy; simp [blkOf] at hb
    · rw [List.getElem?_set_ne hij] at hy; exact hy

theorem svmap_fz (i : Nat) (x : Value) : ∀ l : List SV, svmap (SV.fz i x) l = fzs i x l
  | [] => rfl
  | y :: ys => by simp [SX.svmap, fzs, svmap_fz i x ys]
theorem call_fz {P : Program} {f : FuncId} {args : List SV} {s : St} {K : List Nat → SV → St → Prop} (i : Nat) {e sz n : Nat} {xs : List Value} (hH : nth s.H i = some (.row e sz n xs)) (h1 : ∀ v ∈ xs, v.oneCell' = true)
    (he : ∀ (args : Array Value) (w : World), (callFunc f args).run P w = .ok (.enter f args) w)
    (h : ∀ A c G', Ghe s.G G' → Sl G' A n c sz xs → forceL (fzs i (.slice A n c) args) fun args' => forceL (fzs i (.slice A n c) s.fr) fun fr' => forceObs ((obfz i (.slice A n c) s.H).set i .gone) fun H' => CallVC P E f args' ⟨fr', H', G'⟩ fun T' => K (i :: T')) : CallVC P E f args s K := by
  refine call_gh (gh_done i hH h1) he ?_
  rintro _ _ ⟨A, c, G', hg, hs, rfl, rfl⟩
  have := h A c G' hg hs
  rw [forceL_eq, forceL_eq, forceObs_eq] at this
  rw [svmap_fz]
  exact this
theorem fin_fz {Post : SV → List Ob → Gh → Prop} {sv : SV} {s : St} (i : Nat) {e sz n : Nat} {xs : List Value} (hH : nth s.H i = some (.row e sz n xs)) (h1 : ∀ v ∈ xs, v.oneCell' = true)
    (h : ∀ A c G', Ghe s.G G' → Sl G' A n c sz xs → forceSV (sv.fz i (.slice A n c)) fun sv' => forceL (fzs i (.slice A n c) s.fr) fun fr' => forceObs ((obfz i (.slice A n c) s.H).set i .gone) fun H' => Fin E Post sv' ⟨fr', H', G'⟩) : Fin E Post sv s := by
  refine fin_gh (gh_done i hH h1) ?_
  rintro _ _ ⟨A, c, G', hg, hs, rfl, rfl⟩
  have := h A c G' hg hs
  rw [forceSV_eq, forceL_eq, forceObs_eq] at this
  exact this
/-- A nil slice as an object of its own. -/
theorem Ag.birth (hA : Ag E ρ H G w) (e sz : Nat) : Ag E (ρ ++ [.slice none 0 0]) (H ++ [.row e sz 0 []]) G w := by
  refine hA.push ⟨rfl, rfl, rfl, Nat.le_refl _, fun _ _ _ => rfl⟩ (fun b hb => by simp [blkOf] at hb) ?_
  simp only [ObOK]
  exact World.ownsRow_nil _ _ _ _
theorem birth_back {x : Value} (hx : blkOf x = none) : ∀ (i : Nat) y b, (ρ ++ [x])[i]? = some y → blkOf y = some b → ρ[i]? = some y := by
  intro i y b hy hb
  rcases Nat.lt_or_ge i ρ.length with hi | hi
  · rwa [List.getElem?_append_left hi] at hy
  · rw [List.getElem?_append_right hi] at hy
    rcases Nat.eq_zero_or_pos (i - ρ.length) with h0 | h0
    · rw [h0] at hy; simp at hy; subst hy; rw [hx] at hb; simp at hb
    · rw [List.getElem?_eq_none (by simp; omega)] at hy; simp at hy
theorem ext_ids {l : List Value} : ∀ (i : Nat) x, ρ[i]? = some x → (ρ ++ l)[i]? = some x := fun i x hx => by
  rw [List.getElem?_append_left (List.getElem?_eq_some_iff.1 hx).1]; exact hx
/-- ... in a slot of the frame. -/
theorem gh_birth {s : St} (t : Nat) (e sz : Nat) (hf : nth s.fr t = some (.v (.slice none 0 0))) :
    Gh1 s [] fun g s' => g = (fun x => x) ∧ s' = ⟨s.fr.set t (.s s.H.length), s.H ++ [.row e sz 0 []], s.G⟩ := by
  refine ⟨fun E ρ w hA => ?_⟩
  rw [nth_eq] at hf
  refine ⟨_, _, ρ ++ [.slice none 0 0], ⟨rfl, rfl⟩, hA.birth e sz, fun sv v hr => hr.ext, fun zs hz => ?_, fun i x _ hx => ext_ids i x hx, birth_back rfl, fun _ _ h => h⟩
  obtain ⟨y, hy, hr⟩ := hz.get hf
  simp only [Rv] at hr; subst hr
  have h1 := Rvs.set_ (ρ := ρ ++ [.slice none 0 0]) (x := .s s.H.length) (y := .slice none 0 0) (by simp only [Rv]; rw [← hA.len]; simp) (k := t) (hz.ext (l := [.slice none 0 0]))
  have he : zs.set t (.slice none 0 0) = zs := by
    apply List.ext_getElem?
    intro k
    by_cases hk : t = k
    · subst hk; rw [List.getElem?_set_self (List.getElem?_eq_some_iff.1 hy).1, hy]
    · rw [List.getElem?_set_ne hk]
  rwa [he] at h1
/-- ... in a cell of an object. -/
theorem gh_birthC {s : St} (i k : Nat) (e sz : Nat) {T : TypeId} {xs : List SV} (hH : nth s.H i = some (.cells T xs)) (hf : nth xs k = some (.v (.slice none 0 0))) :
    Gh1 s [] fun g s' => g = (fun x => x) ∧ s' = ⟨s.fr, s.H.set i (.cells T (xs.set k (.s s.H.length))) ++ [.row e sz 0 []], s.G⟩ := by
  refine ⟨fun E ρ w hA => ?_⟩
  rw [nth_eq] at hf hH
  have hi : i < s.H.length := (List.getElem?_eq_some_iff.1 hH).1
  have hiρ : i < ρ.length := by rw [hA.len]; exact hi
  have hρ := List.getElem?_eq_getElem hiρ
  obtain ⟨b, cs, hx, hblk, hr⟩ := hA.obs i _ _ hH hρ
  have hcs : Rvs (ρ ++ [.slice none 0 0]) (xs.set k (.s s.H.length)) cs.toList := by
    obtain ⟨y, hy, hr1⟩ := hr.get hf
    simp only [Rv] at hr1; subst hr1
    have h1 := Rvs.set_ (ρ := ρ ++ [.slice none 0 0]) (x := .s s.H.length) (y := .slice none 0 0) (by simp only [Rv]; rw [← hA.len]; simp) (k := k) (hr.ext (l := [.slice none 0 0]))
    have he : cs.toList.set k (.slice none 0 0) = cs.toList := by
      apply List.ext_getElem?
      intro q
      by_cases hk : k = q
      · subst hk; rw [List.getElem?_set_self (List.getElem?_eq_some_iff.1 hy).1, hy]
      · rw [List.getElem?_set_ne hk]
    rwa [he] at h1
  have hb := hA.birth e sz
  have h2 : Ag E (ρ ++ [.slice none 0 0]) ((s.H ++ [Ob.row e sz 0 []]).set i (Ob.cells T (xs.set k (.s s.H.length)))) s.G w :=
    hb.store (x := ρ[i]) (by rw [List.getElem?_append_left hiρ]; exact hρ) ⟨rfl, rfl, rfl, Nat.le_refl _, fun _ _ _ => rfl⟩ (by simp only [ObOK]; exact ⟨b, cs, hx, hblk, hcs⟩)
  rw [List.set_append_left _ _ hi] at h2
  exact ⟨_, _, ρ ++ [.slice none 0 0], ⟨rfl, rfl⟩, h2, fun sv v hr => hr.ext, fun zs hz => hz.ext, fun i x _ hx => ext_ids i x hx, birth_back rfl, fun _ _ h => h⟩

/-- A literal whose elements are all known is a slice of values. -/
theorem gh_lit {s : St} (i : Nat) {e n : Nat} {zs : List SV} {ys : List Value} (sz : Nat) (hH : nth s.H i = some (.lit e n zs)) (hv : valsOf zs = some ys) (hl : ys.length = n * sz) (hm : n ≤ maxLen) :
    Gh1 s [] fun g s' => g = (fun x => x) ∧ s' = ⟨s.fr, s.H.set i (.row e sz n ys), s.G⟩ := by
  refine ⟨fun E ρ w hA => ?_⟩
  rw [nth_eq] at hH
  have hi : i < s.H.length := (List.getElem?_eq_some_iff.1 hH).1
  have hiρ : i < ρ.length := by rw [hA.len]; exact hi
  have hρ := List.getElem?_eq_getElem hiρ
  obtain ⟨b, cs, hx, hblk, hr⟩ := hA.obs i _ _ hH hρ
  have hcs := valsOf_ok hv hr
  have h2 : Ag E ρ (s.H.set i (.row e sz n ys)) s.G w :=
    hA.store hρ ⟨rfl, rfl, rfl, Nat.le_refl _, fun _ _ _ => rfl⟩ (by
      simp only [ObOK]
      exact ⟨hl, .inr ⟨b, n, cs, hx, Nat.zero_le _, hblk, Nat.le_refl _, hm, by rw [← hl, ← hcs]; simp, by rw [hcs, ← hl]; simp⟩⟩)
  exact ⟨_, _, ρ, ⟨rfl, rfl⟩, h2, fun sv v hr => hr, fun zs hz => hz, fun i x _ hx => hx, fun _ _ _ h _ => h, fun _ _ h => h⟩

theorem svmap_id : ∀ l : List SV, svmap (fun x => x) l = l
  | [] => rfl
  | y :: ys => by simp [SX.svmap, svmap_id ys]
theorem call_lit {P : Program} {f : FuncId} {args : List SV} {s : St} {K : List Nat → SV → St → Prop} (i : Nat) {e n : Nat} {zs : List SV} {ys : List Value} (sz : Nat) (hH : nth s.H i = some (.lit e n zs)) (hv : valsOf zs = some ys) (hl : ys.length = n * sz) (hm : n ≤ maxLen)
    (he : ∀ (args : Array Value) (w : World), (callFunc f args).run P w = .ok (.enter f args) w)
    (h : forceSp (s.H.set i (.row e sz n ys)) fun H' => CallVC P E f args ⟨s.fr, H', s.G⟩ fun T' => K T') : CallVC P E f args s K := by
  refine call_gh (gh_lit i sz hH hv hl hm) he ?_
  rintro _ _ ⟨rfl, rfl⟩
  rw [forceSp_eq] at h
  rw [svmap_id]
  exact h
/-! ### calls that only look -/
mutual
def cl : SV → Bool
  | .v _ => true
  | .p _ _ => false
  | .s _ => false
  | .f _ a c => cls a && cls c
  | .agg xs => cls xs
  | .tup xs => cls xs
  | .lit _ => true
  | .dead => true
def cls : List SV → Bool
  | [] => true
  | x :: xs => cl x && cls xs
end
mutual
theorem Rv.closed {ρ ρ' : List Value} : ∀ {x : SV} {y : Value}, cl x = true → Rv ρ x y → Rv ρ' x y
  | .v _, _, _, h => by simpa [Rv] using h
  | .p _ _, _, h, _ => by simp [cl] at h
  | .s _, _, h, _ => by simp [cl] at h
  | .f fn a c, _, hc, h => by
    simp only [cl, Bool.and_eq_true] at hc
    simp only [Rv] at h ⊢
    obtain ⟨a', c', rfl, h1, h2⟩ := h
    exact ⟨a', c', rfl, Rvs.closed hc.1 h1, Rvs.closed hc.2 h2⟩
  | .agg xs, _, hc, h => by
    simp only [cl] at hc
    simp only [Rv] at h ⊢
    obtain ⟨ys, rfl, h1⟩ := h
    exact ⟨ys, rfl, Rvs.closed hc h1⟩
  | .tup xs, _, hc, h => by
    simp only [cl] at hc
    simp only [Rv] at h ⊢
    obtain ⟨ys, rfl, h1⟩ := h
    exact ⟨ys, rfl, Rvs.closed hc h1⟩
  | .lit _, _, _, h => by simpa [Rv] using h
  | .dead, _, _, _ => by simp [Rv]
theorem Rvs.closed {ρ ρ' : List Value} : ∀ {xs : List SV} {ys : List Value}, cls xs = true → Rvs ρ xs ys → Rvs ρ' xs ys
  | [], _, _, h => by simpa [Rvs] using h
  | x :: xs, _, hc, h => by
    simp only [cls, Bool.and_eq_true] at hc
    simp only [Rvs] at h ⊢
    obtain ⟨y, yt, rfl, h1, h2⟩ := h
    exact ⟨y, yt, rfl, Rv.closed hc.1 h1, Rvs.closed hc.2 h2⟩
end
theorem Ag.later (h : Ag E ρ H G w) {w' : World} (hb : ∀ b, b < w.heap.size → w'.heap[b]? = w.heap[b]?) (hs : w.heap.size ≤ w'.heap.size) (h1 : w'.os = w.os) (h2 : w'.tape = w.tape) (h3 : w'.output = w.output) : Ag E ρ H G w' := by
  refine ⟨h.len, fun i ob x ho hx => (h.obs i ob x ho hx).mono fun b hbx => hb b (h.own i x b hx hbx).1, h.apart, fun i x b hx hbx => ?_, fun b o ho => ?_, fun b hl hF => ?_, Nat.le_trans h.size hs, h1.trans h.os, h2.trans h.tape, h3.trans h.output, h.old, h.gold, h.gnew⟩
  · obtain ⟨a, b', c⟩ := h.own i x b hx hbx
    exact ⟨Nat.lt_of_lt_of_le a hs, b', c⟩
  · have := h.ext b o ho
    rw [hb b (by rw [Array.getElem?_eq_some_iff] at this; exact this.1)]; exact this
  · rw [hb b (Nat.lt_of_lt_of_le hl h.size)]; exact h.frame b hl hF
/-! ### lending -/
/-- Nothing is known of A's block any more. -/
def rmG (A : Option Addr) (G : Gh) : Gh := fun b => match A with
  | some ad => if ad.block = b then none else G b
  | none => G b
theorem rmG_ne {A : Option Addr} {G : Gh} {b : Nat} (h : ∀ ad, A = some ad → ad.block ≠ b) : rmG A G b = G b := by
  unfold rmG
  cases A with
  | none => rfl
  | some ad => simp only; rw [if_neg (h ad rfl)]
/-- What is known of A ahead of a block that is lent stays known. -/
theorem Sl.back {G G1 G2 : Gh} {A B : Option Addr} {n c sz : Nat} {cs : List Value} (h : Sl G A n c sz cs) (hg : Ghe G G2) (hB : Fresh G B) : Sl (rmG B G2) A n c sz cs := by
  refine ⟨h.len, h.cap, h.top, fun ad had j v hj => ?_, h.nil, h.ones⟩
  have h1 := h.there ad had j v hj
  unfold Gcell at h1 ⊢
  cases hb : G (ad.add j).block with
  | none => simp [hb] at h1
  | some o =>
    rw [rmG_ne (fun b hBb e => by have := hB b hBb; rw [e, hb] at this; simp at this), hg _ _ hb]
    rw [hb] at h1; exact h1
theorem Ghe.back {G G2 : Gh} {B : Option Addr} (hg : Ghe G G2) (hB : Fresh G B) : Ghe G (rmG B G2) := fun b o ho => by
  rw [rmG_ne (fun a ha e => by have := hB a ha; rw [e, ho] at this; simp at this)]; exact hg b o ho
/-! ### things that are known -/
theorem br_tt {b : Bool} {A B : Prop} (h : b = true) (ha : A) : br b A B := by subst h; exact br_t ha
theorem br_ff {b : Bool} {A B : Prop} (h : b = false) (hb : B) : br b A B := by subst h; exact br_f hb
theorem lit_ix {a b : Int} {n : Int} {A : Prop} (h1 : decide (b ≤ a) = true) (h2 : decide (a < n) = true) (h : A) : (b ≤ a ∧ a < n) ∧ A := ⟨⟨of_decide_eq_true h1, of_decide_eq_true h2⟩, h⟩
theorem ldrow {xs : List Value} {off n : Nat} {K : List Value → Prop} (hl : Nat.beq ((xs.drop off).take n).length n = true) (h : forceSp ((xs.drop off).take n) K) :
    ∃ ys : List Value, ys.length = n ∧ (∀ (j : Nat) v, ys[j]? = some v → xs[off + j]? = some v) ∧ K ys := by
  rw [forceSp_eq] at h
  refine ⟨_, Nat.eq_of_beq_eq_true hl, fun j v hj => ?_, h⟩
  rw [List.getElem?_take] at hj
  split at hj
  · rwa [List.getElem?_drop] at hj
  · simp at hj
def optK {α : Type} : Option α → (α → Prop) → Prop
  | some v, k => k v
  | none, _ => False
theorem ldrow1 {xs : List Value} {off : Nat} {K : Value → Prop} (h : optK (nth xs off) K) : ∃ v, xs[off]? = some v ∧ K v := by
  rw [nth_eq] at h
  cases hx : xs[off]? with
  | none => rw [hx] at h; exact h.elim
  | some v => rw [hx] at h; exact ⟨v, rfl, h⟩
/-! ### loops -/
def dsts : List Oper → Nat → (Nat → Prop) → Prop
  | [], m, k => k m
  | o :: l, m, k => match o.dst with
    | some t => match Nat.succ (Nat.lor m (Nat.shiftLeft 1 t)) with
      | 0 => k m
      | m' + 1 => dsts l m' k
    | none => dsts l m k
/-- The slots that a piece of code writes, as bits. -/
def asg : Code → Nat → (Nat → Prop) → Prop
  | .region _ ops _, m, k => dsts ops.toList m k
  | .seq a b, m, k => asg a m fun m => asg b m k
  | .cond _ a b, m, k => asg a m fun m => asg b m k
  | .block _ c, m, k => asg c m k
  | .loop c, m, k => asg c m k
  | .scope c, m, k => asg c m k
  | _, m, k => k m
def deadF (m : Nat) : Nat → List SV → (List SV → Prop) → Prop
  | _, [], k => k []
  | i, x :: l, k => match Nat.add i 2 with
    | 0 => k []
    | j + 1 => match Nat.beq (Nat.land (Nat.shiftRight m i) 1) 1 with
      | true => deadF m j l fun l' => k (.dead :: l')
      | false => deadF m j l fun l' => k (x :: l')
def putF : List (Nat × SV) → List SV → List SV
  | [], fr => fr
  | (t, x) :: l, fr => putF l (fr.set t x)
/-- The frame of a loop's round: what its body writes is unknown but for these slots. -/
def frL (body : Code) (fr : List SV) (vars : List (Nat × SV)) (k : List SV → Prop) : Prop := asg body 0 fun m => deadF m 0 fr fun fr' => forceL (putF vars fr') k
theorem dsts_eq : ∀ (l : List Oper) (m : Nat), ∃ m', ∀ k, dsts l m k = k m'
  | [], m => ⟨m, fun _ => rfl⟩
  | o :: l, m => by
    simp only [dsts]
    split
    · rename_i t _; obtain ⟨m', h⟩ := dsts_eq l (Nat.lor m (Nat.shiftLeft 1 t)); exact ⟨m', fun k => h k⟩
    · exact dsts_eq l m
theorem asg_eq : ∀ (c : Code) (m : Nat), ∃ m', ∀ k, asg c m k = k m'
  | .region _ ops _, m => dsts_eq ops.toList m
  | .seq a b, m => by obtain ⟨m1, h1⟩ := asg_eq a m; obtain ⟨m2, h2⟩ := asg_eq b m1; exact ⟨m2, fun k => by simp only [asg, h1, h2]⟩
  | .cond _ a b, m => by obtain ⟨m1, h1⟩ := asg_eq a m; obtain ⟨m2, h2⟩ := asg_eq b m1; exact ⟨m2, fun k => by simp only [asg, h1, h2]⟩
  | .block _ c, m => by obtain ⟨m1, h1⟩ := asg_eq c m; exact ⟨m1, fun k => by simp only [asg, h1]⟩
  | .loop c, m => by obtain ⟨m1, h1⟩ := asg_eq c m; exact ⟨m1, fun k => by simp only [asg, h1]⟩
  | .scope c, m => by obtain ⟨m1, h1⟩ := asg_eq c m; exact ⟨m1, fun k => by simp only [asg, h1]⟩
  | .skip, m => ⟨m, fun _ => by simp only [asg]⟩
  | .label _, m => ⟨m, fun _ => by simp only [asg]⟩
  | .ret, m => ⟨m, fun _ => by simp only [asg]⟩
  | .exit _, m => ⟨m, fun _ => by simp only [asg]⟩
  | .rangeFunc _ _ _ _, m => ⟨m, fun _ => by simp only [asg]⟩
  | .goto _, m => ⟨m, fun _ => by simp only [asg]⟩
  | .refuse _, m => ⟨m, fun _ => by simp only [asg]⟩
theorem deadF_eq (m : Nat) : ∀ (fr : List SV) (i : Nat), ∃ fr', ∀ k, deadF m i fr k = k fr'
  | [], i => ⟨[], fun _ => by simp only [deadF]⟩
  | x :: l, i => by
    obtain ⟨l', h⟩ := deadF_eq m l (i + 1)
    have h2 : ∀ k, deadF m i (x :: l) k = match Nat.beq (Nat.land (Nat.shiftRight m i) 1) 1 with
      | true => deadF m (i + 1) l fun l' => k (.dead :: l')
      | false => deadF m (i + 1) l fun l' => k (x :: l') := fun k => by rw [deadF]
    cases hb : Nat.beq (Nat.land (Nat.shiftRight m i) 1) 1 with
    | true => exact ⟨.dead :: l', fun k => by rw [h2, hb]; exact h _⟩
    | false => exact ⟨x :: l', fun k => by rw [h2, hb]; exact h _⟩
theorem frL_eq (body : Code) (fr : List SV) : ∃ f : List (Nat × SV) → List SV, ∀ vars k, frL body fr vars k = k (f vars) := by
  obtain ⟨m, hm⟩ := asg_eq body 0
  obtain ⟨fr', hf⟩ := deadF_eq m fr 0
  exact ⟨fun vars => putF vars fr', fun vars k => by simp only [frL, hm, hf, forceL_eq]⟩
/-- A contract whose end is told in another way. -/
theorem Ct.fin {P : Program} {f : FuncId} {args : List SV} {H : List Ob} {G : Gh} {Post Post' : SV → List Ob → Gh → Prop} (h : Ct P f args H G Post)
    (hf : ∀ (E : Env) sv H' G', E.ρ0.length = H.length → Post sv H' G' → Fin E Post' sv ⟨[], H', G'⟩) : Ct P f args H G Post' := by
  refine ⟨h.enters, fun ρ w ys hA hargs => (h.calls ρ w ys hA hargs).mono fun e w' hh => ?_⟩
  obtain ⟨v, sv, H', G', ρ', rfl, hp, hA', hr⟩ := hh
  obtain ⟨ρ2, H2, G2, sv2, hp2, hA2, hr2⟩ := (hf (Fr w ρ G) sv H' G' hA.len hp).out ρ' w' v hA' hr
  exact ⟨v, sv2, H2, G2, ρ2, rfl, hp2, hA2, hr2⟩
/-! ### a state told in another way -/
/-- The place of an object among those that are kept. -/
def inv : List Nat → Nat → Option Nat
  | [], _ => none
  | k :: ks, i => match Nat.beq k i with
    | true => some 0
    | false => match inv ks i with
      | some j => some (j + 1)
      | none => none
theorem inv_get : ∀ {ks : List Nat} {i j : Nat}, inv ks i = some j → ks[j]? = some i
  | [], i, j, h => by simp [inv] at h
  | k :: ks, i, j, h => by
    simp only [inv] at h
    split at h
    · rename_i hb; simp at h; subst h; simp [Nat.eq_of_beq_eq_true hb]
    · split at h
      · rename_i j' hj; simp at h; subst h; simpa using inv_get hj
      · simp at h
def selOb (keep all : List Nat) (H : List Ob) : List Ob :=
  match keep with
  | [] => []
  | k :: ks => (match nth H k with
    | some ob => ob.map (inv all)
    | none => .gone) :: selOb ks all H
theorem selOb_len (all : List Nat) (H : List Ob) : ∀ keep : List Nat, (selOb keep all H).length = keep.length
  | [] => rfl
  | k :: ks => by simp [selOb, selOb_len all H ks]
theorem selOb_get (all : List Nat) (H : List Ob) : ∀ (keep : List Nat) (i k : Nat) (ob : Ob), keep[i]? = some k → H[k]? = some ob → (selOb keep all H)[i]? = some (ob.map (inv all))
  | [], i, k, ob, h, _ => by simp at h
  | k0 :: ks, 0, k, ob, h, ho => by simp at h; subst h; simp [selOb, nth_eq, ho]
  | k0 :: ks, i + 1, k, ob, h, ho => by simpa [selOb] using selOb_get all H ks i k ob (by simpa using h) ho
def allLt (n : Nat) : List Nat → Bool
  | [] => true
  | k :: ks => ltb k n && allLt n ks
theorem allLt_ok {n : Nat} : ∀ {l : List Nat}, allLt n l = true → ∀ k ∈ l, k < n
  | [], _, k, h => by simp at h
  | k0 :: ks, h, k, hk => by
    simp only [allLt, Bool.and_eq_true] at h
    rcases List.mem_cons.1 hk with rfl | hk
    · exact Nat.le_of_ble_eq_true h.1
    · exact allLt_ok h.2 k hk
theorem Ag.gc (h : Ag E ρ H G w) {n : Nat} (hE : E.ρ0.length = n) {keep : List Nat} (hk : keepc n keep = true) (hlt : allLt H.length keep = true) : Ag E (pick ρ keep) (selOb keep keep H) G w ∧
    ∀ i k x, inv keep i = some k → ρ[i]? = some x → (pick ρ keep)[k]? = some x := by
  simp only [keepc, Bool.and_eq_true, decide_eq_true_eq] at hk
  have hkn : ∀ i, i < n → keep[i]? = some i := fun i hi => by simpa using List.all_eq_true.1 hk.2 i (by simpa using hi)
  have hget : ∀ (i : Nat) x, (pick ρ keep)[i]? = some x → ∃ k, keep[i]? = some k ∧ ρ[k]? = some x := by
    intro i x hx
    obtain ⟨k, hk', rfl⟩ := pick_get hx
    have : k < ρ.length := by rw [h.len]; exact allLt_ok hlt k (List.mem_of_getElem? hk')
    exact ⟨k, hk', by simp [List.getElem?_eq_getElem this]⟩
  have hr : ∀ i k x, inv keep i = some k → ρ[i]? = some x → (pick ρ keep)[k]? = some x := by
    intro i k x hi hx
    unfold pick
    rw [List.getElem?_map, inv_get hi]
    simp [hx]
  refine ⟨⟨by simp [pick, selOb_len], ?_, ?_, ?_, h.ext, h.frame, h.size, h.os, h.tape, h.output, ?_, h.gold, h.gnew⟩, hr⟩
  · intro i ob x hob hx
    obtain ⟨k, hk', hkx⟩ := hget i x hx
    have hkl : k < H.length := by rw [← h.len]; exact (List.getElem?_eq_some_iff.1 hkx).1
    rw [selOb_get keep H keep i k _ hk' (List.getElem?_eq_getElem hkl)] at hob
    simp at hob; subst hob
    exact (h.obs k _ x (List.getElem?_eq_getElem hkl) hkx).fwd hr
  · intro i j x y b hx hy hxb hyb
    obtain ⟨k, hk', hkx⟩ := hget i x hx
    obtain ⟨k', hk'', hky⟩ := hget j y hy
    have := h.apart k k' x y b hkx hky hxb hyb
    subst this
    exact (List.getElem?_inj (List.getElem?_eq_some_iff.1 hk').1 hk.1).1 (hk'.trans hk''.symm)
  · intro i x b hx hxb
    obtain ⟨k, _, hkx⟩ := hget i x hx
    exact h.own k x b hkx hxb
  · intro i a hi
    have h1 := h.old i a hi
    have hin : i < n := by rw [← hE]; exact (List.getElem?_eq_some_iff.1 hi).1
    unfold pick
    rw [List.getElem?_map, hkn i hin]
    simp [h1]
/-- The state may be told in a way that C knows. -/
structure Tell (E : Env) (s : St) (C : St → Prop) : Prop where
  out : ∀ ρ w zs, Ag E ρ s.H s.G w → Rvs ρ s.fr zs → ∃ s1 ρ', C s1 ∧ Ag E ρ' s1.H s1.G w ∧ Rvs ρ' s1.fr zs
theorem tell_here {s : St} {C : St → Prop} (h : C s) : Tell E s C := ⟨fun ρ w zs hA hF => ⟨s, ρ, h, hA, hF⟩⟩
def gcSt (keep : List Nat) (s : St) (k : St → Prop) : Prop := forceL (maps (inv keep) s.fr) fun fr => forceObs (selOb keep keep s.H) fun H => k ⟨fr, H, s.G⟩
theorem tell_gc {n : Nat} (hE : E.ρ0.length = n) (keep : List Nat) {s : St} {C : St → Prop} (hk : keepc n keep = true) (hlt : allLt s.H.length keep = true) (h : gcSt keep s fun s' => Tell E s' C) : Tell E s C := by
  refine ⟨fun ρ w zs hA hF => ?_⟩
  unfold gcSt at h
  rw [forceL_eq, forceObs_eq] at h
  obtain ⟨hA', hr⟩ := hA.gc hE hk hlt
  exact h.out _ w zs hA' (hF.fwd hr)
theorem loop_tell {P : Program} (hm : P.follows .mixedOrders = true) (Pl : List (Nat × Plan2)) {α : Type} {body : Code} {K : Kont} {s : St} (Inv : α → St → Prop) (μ : α → Nat)
    (h0 : ∃ x s1, Inv x s1 ∧ s1.H = s.H ∧ s1.G = s.G ∧ wk s.fr s1.fr)
    (step : ∀ x s, Inv x s → sxC P E Pl body (fun e s' => match e with
      | .normal => Tell E s' fun s2 => ∃ y s1, Inv y s1 ∧ μ y < μ x ∧ s1.H = s2.H ∧ s1.G = s2.G ∧ wk s2.fr s1.fr
      | .ret => K .ret s'
      | .exit i => K (.exit i) s') s) : LoopVC P E body s K := by
  refine ⟨fun Q hW0 hK ρ a w hA hF hd => ?_⟩
  obtain ⟨x0, s1, hI, e1, e2, hw⟩ := h0
  refine wp_loopx (fun x a w => ∃ s ρ, Inv x s ∧ Ag E ρ s.H s.G w ∧ Rvs ρ s.fr a.tmps.toList ∧ E.Kp a) μ ?_ (x0 := x0) ⟨s1, ρ, hI, by rw [e1, e2]; exact hA, wk_ok hw hF, hd⟩
  rintro x a w ⟨s, ρ, hI, hA, hF, hd⟩
  refine sxC_ok hm Pl body ⟨?_, ?_, hK.pan0⟩ (step x s hI) hA hF hd (okW_nil hW0 body)
  · intro e s' hs ρ' a' w' hA' hF' hd'
    cases e with
    | normal =>
      obtain ⟨s2, ρ2, ⟨y, s1, hy, hlt, e1, e2, hw⟩, hA2, hF2⟩ := hs.out ρ' w' _ hA' hF'
      exact ⟨y, ⟨s1, ρ2, hy, by rw [e1, e2]; exact hA2, wk_ok hw hF2, hd'⟩, hlt⟩
    | ret => exact hK.go .ret s' hs ρ' a' w' hA' hF' hd'
    | exit i => exact hK.go (.exit i) s' hs ρ' a' w' hA' hF' hd'
  · exact hK.pan
/-- A loop that ends within n rounds, walked round by round. -/
def unr (P : Program) (E : Env) (Pl : List (Nat × Plan2)) (body : Code) (K : Kont) : Nat → St → Prop
  | 0, _ => False
  | n + 1, s => sxC P E Pl body (fun e s' => match e with
      | .normal => unr P E Pl body K n s'
      | .ret => K .ret s'
      | .exit i => K (.exit i) s') s
theorem loop_unroll {P : Program} (hm : P.follows .mixedOrders = true) (Pl : List (Nat × Plan2)) (n : Nat) {body : Code} {K : Kont} {s : St} (h : unr P E Pl body K n s) : LoopVC P E body s K := by
  refine ⟨fun Q hW0 hK ρ a w hA hF hd => ?_⟩
  refine wp_loopx (fun (m : Nat) a w => ∃ s ρ, unr P E Pl body K m s ∧ Ag E ρ s.H s.G w ∧ Rvs ρ s.fr a.tmps.toList ∧ E.Kp a) id ?_ (x0 := n) ⟨s, ρ, h, hA, hF, hd⟩
  rintro m a w ⟨s, ρ, hI, hA, hF, hd⟩
  cases m with
  | zero => exact hI.elim
  | succ m =>
    simp only [unr] at hI
    refine sxC_ok hm Pl body ⟨?_, ?_, hK.pan0⟩ hI hA hF hd (okW_nil hW0 body)
    · intro e s' hs ρ' a' w' hA' hF' hd'
      cases e with
      | normal => exact ⟨m, ⟨s', ρ', hs, hA', hF', hd'⟩, Nat.lt_succ_self m⟩
      | ret => exact hK.go .ret s' hs ρ' a' w' hA' hF' hd'
      | exit i => exact hK.go (.exit i) s' hs ρ' a' w' hA' hF' hd'
    · exact hK.pan
theorem loop_vars {P : Program} (hm : P.follows .mixedOrders = true) (Pl : List (Nat × Plan2)) {α : Type} {body : Code} {K : Kont} {s : St} (vars : α → List (Nat × SV)) (Hs : α → List Ob) (Gs : α → Gh) (I : α → Prop) (μ : α → Nat) (x0 : α)
    (hI : I x0) (hH : Hs x0 = s.H) (hG : Gs x0 = s.G) (hw : Stop (frL body s.fr (vars x0) fun fr => wk s.fr fr))
    (step : ∀ x, I x → frL body s.fr (vars x) fun fr => sxC P E Pl body (fun e s' => match e with
      | .normal => Tell E s' fun s2 => ∃ y, I y ∧ μ y < μ x ∧ Hs y = s2.H ∧ Gs y = s2.G ∧ Stop (frL body s.fr (vars y) fun fr => wk s2.fr fr)
      | .ret => K .ret s'
      | .exit i => K (.exit i) s') ⟨fr, Hs x, Gs x⟩) : LoopVC P E body s K := by
  obtain ⟨f, hf⟩ := frL_eq body s.fr
  have hst : ∀ A, Stop A = A := fun A => propext ⟨fun h => h.out, fun h => ⟨h⟩⟩
  refine loop_tell hm Pl (fun x s1 => I x ∧ s1 = ⟨f (vars x), Hs x, Gs x⟩) μ ⟨x0, _, ⟨hI, rfl⟩, hH, hG, by have := hw.out; rw [hf] at this; exact this⟩ ?_
  rintro x s1 ⟨hx, rfl⟩
  have h := step x hx
  rw [hf] at h
  have hfun : (fun (e : Ex) (s' : St) => match e with
      | .normal => Tell E s' fun s2 => ∃ y, I y ∧ μ y < μ x ∧ Hs y = s2.H ∧ Gs y = s2.G ∧ Stop (frL body s.fr (vars y) fun fr => wk s2.fr fr)
      | .ret => K .ret s'
      | .exit i => K (.exit i) s') = (fun (e : Ex) (s' : St) => match e with
      | .normal => Tell E s' fun s2 => ∃ y s1, (I y ∧ s1 = (⟨f (vars y), Hs y, Gs y⟩ : St)) ∧ μ y < μ x ∧ s1.H = s2.H ∧ s1.G = s2.G ∧ wk s2.fr s1.fr
      | .ret => K .ret s'
      | .exit i => K (.exit i) s') := by
    funext e s'
    cases e with
    | normal =>
      simp only [hst, hf]
      refine congrArg (Tell E s') (funext fun s2 => propext ⟨fun ⟨y, h1, h2, h3, h4, h5⟩ => ⟨y, _, ⟨h1, rfl⟩, h2, h3, h4, h5⟩, ?_⟩)
      rintro ⟨y, _, ⟨h1, rfl⟩, h2, h3, h4, h5⟩
      exact ⟨y, h1, h2, h3, h4, h5⟩
    | ret => rfl
    | exit i => rfl
  rw [hfun] at h
  exact h
end
end Go.SX

namespace Go.SX
theorem stop_eq (A : Prop) : Stop A = A := propext ⟨fun h => h.out, fun h => ⟨h⟩⟩
/-- What follows the loop is K0 while the loop is walked. -/
theorem loop_opq {P : Program} {E : Env} {body : Code} {s : St} {K : Kont} (h : ∀ K0 : Kont, (∀ e s', K e s' → K0 e s') → LoopVC P E body s fun e s' => Stop (K0 e s')) : LoopVC P E body s K := by
  have h1 := h K fun _ _ x => x
  have h2 : (fun e s' => Stop (K e s')) = K := funext fun e => funext fun s' => stop_eq _
  rw [h2] at h1
  exact h1
end Go.SX

namespace Go.SX
open Go.RowKit Go.Deep
set_option linter.unusedVariables false
set_option linter.unusedSimpArgs false

theorem Gcell.to {G G' : Gh} (hg : Ghe G G') {a : Addr} {v : Value} (h : Gcell G a = some v) : Gcell G' a = some v := by
  unfold Gcell at h ⊢
  cases hb : G a.block with
  | none => simp [hb] at h
  | some o => rw [hg _ _ hb]; rw [hb] at h; exact h
theorem Gat.to {G G' : Gh} (hg : Ghe G G') {a : Addr} {ys : List Value} (h : Gat G a ys) : Gat G' a ys := fun j v hj => Gcell.to hg (h j v hj)
theorem Sl.to {G G' : Gh} (hg : Ghe G G') {A : Option Addr} {n c sz : Nat} {cs : List Value} (h : Sl G A n c sz cs) : Sl G' A n c sz cs :=
  ⟨h.len, h.cap, h.top, fun ad had => (h.there ad had).to hg, h.nil, h.ones⟩
theorem Sl.none_ (G : Gh) (sz : Nat) : Sl G none 0 0 sz [] := ⟨by simp, Nat.le_refl _, by decide, fun ad h => by simp at h, fun _ => ⟨rfl, rfl⟩, fun v hv => by simp at hv⟩

/-- How a thing of the plain side lies in cells. -/
structure Kd (α : Type) where
  sz : Nat
  R : Gh → α → List Value → Prop
  len : ∀ {G x cs}, R G x cs → cs.length = sz
  one : ∀ {G x cs}, R G x cs → ∀ v ∈ cs, v.oneCell' = true
  mono : ∀ {G G' x cs}, Ghe G G' → R G x cs → R G' x cs

/-- Elements and their cells. -/
def All2 {α β : Type} (R : α → β → Prop) : List α → List β → Prop
  | [], [] => True
  | x :: xs, y :: ys => R x y ∧ All2 R xs ys
  | _, _ => False
theorem All2.len {α β : Type} {R : α → β → Prop} : ∀ {xs : List α} {ys : List β}, All2 R xs ys → ys.length = xs.length
  | [], [], _ => rfl
  | _ :: _, _ :: _, h => by simp [h.2.len]
  | [], _ :: _, h => h.elim
  | _ :: _, [], h => h.elim
theorem All2.get {α β : Type} {R : α → β → Prop} : ∀ {xs : List α} {ys : List β}, All2 R xs ys → ∀ (i : Nat) x, xs[i]? = some x → ∃ y, ys[i]? = some y ∧ R x y
  | [], [], _, i, x, h => by simp at h
  | a :: _, b :: _, h, 0, x, hx => by simp at hx; subst hx; exact ⟨b, by simp, h.1⟩
  | a :: _, b :: _, h, i + 1, x, hx => by simpa using h.2.get i x (by simpa using hx)
  | [], _ :: _, h, _, _, _ => h.elim
  | _ :: _, [], h, _, _, _ => h.elim
theorem All2.get' {α β : Type} {R : α → β → Prop} : ∀ {xs : List α} {ys : List β}, All2 R xs ys → ∀ (i : Nat) y, ys[i]? = some y → ∃ x, xs[i]? = some x ∧ R x y
  | [], [], _, i, x, h => by simp at h
  | a :: _, b :: _, h, 0, x, hx => by simp at hx; subst hx; exact ⟨a, by simp, h.1⟩
  | a :: _, b :: _, h, i + 1, x, hx => by simpa using h.2.get' i x (by simpa using hx)
  | [], _ :: _, h, _, _, _ => h.elim
  | _ :: _, [], h, _, _, _ => h.elim
theorem All2.imp {α β : Type} {R R' : α → β → Prop} (hi : ∀ x y, R x y → R' x y) : ∀ {xs : List α} {ys : List β}, All2 R xs ys → All2 R' xs ys
  | [], [], _ => trivial
  | _ :: _, _ :: _, h => ⟨hi _ _ h.1, h.2.imp hi⟩
  | [], _ :: _, h => h.elim
  | _ :: _, [], h => h.elim
theorem All2.app {α β : Type} {R : α → β → Prop} {xs' : List α} {ys' : List β} (h' : All2 R xs' ys') : ∀ {xs : List α} {ys : List β}, All2 R xs ys → All2 R (xs ++ xs') (ys ++ ys')
  | [], [], _ => h'
  | _ :: _, _ :: _, h => ⟨h.1, All2.app h' h.2⟩
  | [], _ :: _, h => h.elim
  | _ :: _, [], h => h.elim
theorem All2.drop_ {α β : Type} {R : α → β → Prop} : ∀ {xs : List α} {ys : List β} (k : Nat), All2 R xs ys → All2 R (xs.drop k) (ys.drop k)
  | [], [], k, _ => by simp [All2]
  | x :: xs, y :: ys, 0, h => by simpa using h
  | x :: xs, y :: ys, k + 1, h => by simpa using All2.drop_ k h.2
  | [], _ :: _, _, h => h.elim
  | _ :: _, [], _, h => h.elim
theorem All2.take_ {α β : Type} {R : α → β → Prop} : ∀ {xs : List α} {ys : List β} (k : Nat), All2 R xs ys → All2 R (xs.take k) (ys.take k)
  | [], [], k, _ => by simp [All2]
  | x :: xs, y :: ys, 0, h => by simp [All2]
  | x :: xs, y :: ys, k + 1, h => by simp only [List.take_succ_cons]; exact ⟨h.1, All2.take_ k h.2⟩
  | [], _ :: _, _, h => h.elim
  | _ :: _, [], _, h => h.elim

section
variable {α : Type}
/-- The cells of a list of elements. -/
def Kd.Cs (d : Kd α) (G : Gh) (l : List α) (cs : List Value) : Prop := ∃ css : List (List Value), All2 (d.R G) l css ∧ cs = css.flatten
theorem Kd.rows_len (d : Kd α) {G : Gh} {l : List α} {css : List (List Value)} (h : All2 (d.R G) l css) : ∀ r ∈ css, r.length = d.sz := by
  intro r hr
  obtain ⟨i, hi⟩ := List.getElem?_of_mem hr
  obtain ⟨x, _, hx⟩ := h.get' i r hi
  exact d.len hx
theorem flen {k : Nat} : ∀ (l : List (List Value)), (∀ r ∈ l, r.length = k) → l.flatten.length = l.length * k
  | [], _ => by simp
  | r :: l, h => by
    rw [List.flatten_cons, List.length_append, flen l (fun r' hr' => h r' (by simp [hr'])), h r (by simp), List.length_cons, Nat.add_mul]
    omega
theorem fdrop {k : Nat} : ∀ (l : List (List Value)) (i : Nat), (∀ r ∈ l, r.length = k) → l.flatten.drop (i * k) = (l.drop i).flatten
  | [], i, _ => by simp
  | r :: l, 0, _ => by simp
  | r :: l, i + 1, h => by
    have hr := h r (by simp)
    rw [List.flatten_cons, List.drop_succ_cons, ← fdrop l i (fun r' hr' => h r' (by simp [hr'])), List.drop_append, hr]
    rw [show (i + 1) * k - k = i * k by rw [Nat.add_mul]; omega]
    rw [List.drop_eq_nil_of_le (by rw [hr, Nat.add_mul]; omega), List.nil_append]
theorem ftake {k : Nat} : ∀ (l : List (List Value)) (i : Nat), (∀ r ∈ l, r.length = k) → l.flatten.take (i * k) = (l.take i).flatten
  | [], i, _ => by simp
  | r :: l, 0, _ => by simp
  | r :: l, i + 1, h => by
    have hr := h r (by simp)
    rw [List.flatten_cons, List.take_succ_cons, List.flatten_cons, ← ftake l i (fun r' hr' => h r' (by simp [hr'])), List.take_append, hr]
    rw [show (i + 1) * k - k = i * k by rw [Nat.add_mul]; omega]
    rw [List.take_of_length_le (by rw [hr, Nat.add_mul]; omega)]
theorem fget {k : Nat} (l : List (List Value)) (h : ∀ r ∈ l, r.length = k) (i : Nat) (r : List Value) (hi : l[i]? = some r) : (l.flatten.drop (i * k)).take k = r := by
  rw [fdrop l i h]
  have : l.drop i = r :: l.drop (i + 1) := by
    rw [List.getElem?_eq_some_iff] at hi
    obtain ⟨hl, rfl⟩ := hi
    rw [List.drop_eq_getElem_cons hl]
  rw [this, List.flatten_cons, List.take_append, h r (List.mem_of_getElem? hi)]
  simp [List.take_of_length_le (show r.length ≤ k by rw [h r (List.mem_of_getElem? hi)]; omega)]

/-- A slice of elements that nobody changes. -/
def Kd.S (d : Kd α) (G : Gh) (A : Option Addr) (c : Nat) (l : List α) : Prop := ∃ css : List (List Value), All2 (d.R G) l css ∧ Sl G A l.length c d.sz css.flatten
theorem Kd.S.to {d : Kd α} {G G' : Gh} {A : Option Addr} {c : Nat} {l : List α} (h : d.S G A c l) (hg : Ghe G G') : d.S G' A c l := by
  obtain ⟨css, h1, h2⟩ := h
  exact ⟨css, h1.imp fun _ _ => d.mono hg, h2.to hg⟩
theorem Kd.S.cap {d : Kd α} {G : Gh} {A : Option Addr} {c : Nat} {l : List α} (h : d.S G A c l) : l.length ≤ c ∧ c ≤ 9223372036854775807 := by
  obtain ⟨css, h1, h2⟩ := h
  exact ⟨h2.cap, h2.top⟩
theorem Kd.S.none_ (d : Kd α) (G : Gh) : d.S G none 0 [] := ⟨[], trivial, Sl.none_ G _⟩
/-- A slice that was built of such elements and is done. -/
theorem Kd.S.of {d : Kd α} {G : Gh} {A : Option Addr} {n c sz : Nat} {cs : List Value} {l : List α} (h : Sl G A n c sz cs) (hn : n = l.length) (hsz : sz = d.sz) (hc : d.Cs G l cs) : d.S G A c l := by
  obtain ⟨css, h1, rfl⟩ := hc
  subst hn hsz
  exact ⟨css, h1, h⟩
theorem Kd.Cs.nil (d : Kd α) (G : Gh) : d.Cs G [] [] := ⟨[], trivial, rfl⟩
theorem Kd.Cs.snoc {d : Kd α} {G : Gh} {l : List α} {cs : List Value} (h : d.Cs G l cs) {x : α} {c : List Value} (hx : d.R G x c) : d.Cs G (l ++ [x]) (cs ++ c) := by
  obtain ⟨css, h1, rfl⟩ := h
  exact ⟨css ++ [c], All2.app (xs' := [x]) (ys' := [c]) ⟨hx, trivial⟩ h1, by simp⟩
theorem Kd.Cs.app {d : Kd α} {G : Gh} {l l' : List α} {cs cs' : List Value} (h : d.Cs G l cs) (h' : d.Cs G l' cs') : d.Cs G (l ++ l') (cs ++ cs') := by
  obtain ⟨css, h1, rfl⟩ := h
  obtain ⟨css', h2, rfl⟩ := h'
  exact ⟨css ++ css', All2.app h2 h1, by simp⟩
theorem Kd.Cs.to {d : Kd α} {G G' : Gh} {l : List α} {cs : List Value} (h : d.Cs G l cs) (hg : Ghe G G') : d.Cs G' l cs := by
  obtain ⟨css, h1, rfl⟩ := h
  exact ⟨css, h1.imp fun _ _ => d.mono hg, rfl⟩
theorem Kd.Cs.ones {d : Kd α} {G : Gh} {l : List α} {cs : List Value} (h : d.Cs G l cs) : ∀ v ∈ cs, v.oneCell' = true := by
  obtain ⟨css, h1, rfl⟩ := h
  intro v hv
  obtain ⟨r, hr, hv⟩ := List.mem_flatten.1 hv
  obtain ⟨i, hi⟩ := List.getElem?_of_mem hr
  obtain ⟨x, _, hx⟩ := h1.get' i r hi
  exact d.one hx v hv
theorem Kd.Cs.len {d : Kd α} {G : Gh} {l : List α} {cs : List Value} (h : d.Cs G l cs) : cs.length = l.length * d.sz := by
  obtain ⟨css, h1, rfl⟩ := h
  rw [flen _ (d.rows_len h1), h1.len]
theorem Kd.S.cs {d : Kd α} {G : Gh} {A : Option Addr} {c : Nat} {l : List α} (h : d.S G A c l) : ∃ cs, Sl G A l.length c d.sz cs ∧ d.Cs G l cs := by
  obtain ⟨css, h1, h2⟩ := h
  exact ⟨_, h2, css, h1, rfl⟩
/-- The element at an index. -/
theorem Kd.S.ix {d : Kd α} {G : Gh} {A : Option Addr} {c sz : Nat} {l : List α} (h : d.S G A c l) (hsz : sz = d.sz) {j : Int} {n : Nat} (hn : n = l.length) (h0 : 0 ≤ j) (hj : j < l.length) {K : SV → Prop}
    (hK : ∀ ad x cs, l[j.toNat]? = some x → d.R G x cs → Gat G ad cs → K (.v (.pointer (some ad)))) :
    (0 ≤ j ∧ j < (n : Int)) ∧ ∃ cs, Sl G A n c sz cs ∧ ∀ ad, Gat G ad ((cs.drop (j.toNat * sz)).take sz) → (∃ a0, A = some a0 ∧ ad = a0.add (j.toNat * sz)) → K (.v (.pointer (some ad))) := by
  subst hn hsz
  obtain ⟨css, h1, h2⟩ := h
  refine ⟨⟨h0, hj⟩, _, h2, fun ad had _ => ?_⟩
  have hlt : j.toNat < l.length := by omega
  obtain ⟨r, hr, hR⟩ := h1.get j.toNat _ (List.getElem?_eq_getElem hlt)
  rw [fget css (d.rows_len h1) _ r hr] at had
  exact hK ad _ r (List.getElem?_eq_getElem hlt) hR had
theorem Kd.S.at {d : Kd α} {G : Gh} {A : Option Addr} {c sz : Nat} {l : List α} (h : d.S G A c l) (hsz : sz = d.sz) :
    ∃ cs, Sl G A l.length c sz cs ∧ ∀ j, j < l.length → ∀ ad, Gat G ad ((cs.drop (j * sz)).take sz) → ∃ x xs, l[j]? = some x ∧ d.R G x xs ∧ Gat G ad xs := by
  subst hsz
  obtain ⟨css, h1, h2⟩ := h
  refine ⟨_, h2, fun j hj ad had => ?_⟩
  obtain ⟨r, hr, hR⟩ := h1.get j _ (List.getElem?_eq_getElem hj)
  rw [fget css (d.rows_len h1) _ r hr] at had
  exact ⟨_, r, List.getElem?_eq_getElem hj, hR, had⟩
/-- The rest from an element on. -/
theorem Sl.drop_ {G : Gh} {A A' : Option Addr} {n c sz a : Nat} {cs : List Value} (hs : Sl G A n c sz cs) (ha : a ≤ n) (hA : A' = if c = a then A else A.map (·.add (a * sz))) : Sl G A' (n - a) (c - a) sz (cs.drop (a * sz)) := by
  have hc := hs.cap
  refine ⟨by rw [List.length_drop, hs.len, Nat.sub_mul], by omega, by have := hs.top; omega, fun ad had => ?_, fun hn => ?_, fun v hv => hs.ones v (List.mem_of_mem_drop hv)⟩
  · by_cases hca : c = a
    · have : cs.drop (a * sz) = [] := List.drop_eq_nil_of_le (by rw [hs.len]; exact Nat.mul_le_mul_right _ (by omega))
      rw [this]; intro j v hj; simp at hj
    · rw [if_neg hca] at hA
      cases A with
      | none => rw [hA] at had; simp at had
      | some ad0 =>
        rw [hA] at had
        simp at had
        subst had
        by_cases hl : a * sz < cs.length
        · exact (hs.there ad0 rfl).drop_ _ hl
        · rw [List.drop_eq_nil_of_le (by omega)]; intro j v hj; simp at hj
  · by_cases hca : c = a
    · rw [if_pos hca] at hA
      have := hs.nil (by rw [← hA]; exact hn)
      omega
    · rw [if_neg hca] at hA
      cases A with
      | none => have := hs.nil rfl; omega
      | some ad0 => rw [hA] at hn; simp at hn
theorem Sl.take_ {G : Gh} {A : Option Addr} {n c sz k : Nat} {cs : List Value} (hs : Sl G A n c sz cs) (hk : k ≤ n) : Sl G A k c sz (cs.take (k * sz)) := by
  have hc := hs.cap
  refine ⟨by rw [List.length_take, hs.len, Nat.min_eq_left (Nat.mul_le_mul_right _ hk)], by omega, hs.top, fun ad had => (hs.there ad had).take_ _, fun hn => ?_, fun v hv => hs.ones v (List.mem_of_mem_take hv)⟩
  have := hs.nil hn; omega
theorem Kd.S.drop_ {d : Kd α} {G : Gh} {A A' : Option Addr} {c a : Nat} {l : List α} (hs : d.S G A c l) (ha : a ≤ l.length) (hA : A' = if c = a then A else A.map (·.add (a * d.sz))) : d.S G A' (c - a) (l.drop a) := by
  obtain ⟨css, h1, h2⟩ := hs
  refine ⟨css.drop a, h1.drop_ a, ?_⟩
  have := h2.drop_ ha hA
  rw [fdrop _ _ (d.rows_len h1)] at this
  rwa [List.length_drop]
theorem Kd.S.take_ {d : Kd α} {G : Gh} {A : Option Addr} {c k : Nat} {l : List α} (hs : d.S G A c l) (hk : k ≤ l.length) : d.S G A c (l.take k) := by
  obtain ⟨css, h1, h2⟩ := hs
  refine ⟨css.take k, h1.take_ k, ?_⟩
  have := h2.take_ hk
  rw [ftake _ _ (d.rows_len h1)] at this
  rwa [List.length_take, Nat.min_eq_left hk]
end

/-- Integers of a kind within bounds. -/
def kI (k : IntKind) (lo hi : Int) : Kd Int where
  sz := 1
  R _ x cs := cs = [.int k x] ∧ lo ≤ x ∧ x ≤ hi
  len h := by rw [h.1]; rfl
  one h := by rw [h.1]; intro v hv; simp at hv; subst hv; rfl
  mono _ h := h
/-- Slices. -/
def kS {α : Type} (d : Kd α) : Kd (List α) where
  sz := 1
  R G l cs := ∃ A c, cs = [.slice A l.length c] ∧ d.S G A c l
  len h := by obtain ⟨A, c, rfl, _⟩ := h; rfl
  one h := by obtain ⟨A, c, rfl, _⟩ := h; intro v hv; simp at hv; subst hv; rfl
  mono hg h := by obtain ⟨A, c, h1, h2⟩ := h; exact ⟨A, c, h1, h2.to hg⟩

/-! ### what lies in the world is of its kind -/
/-- What reads at type t is of kind d. -/
def Opens {α : Type} (P : Program) (t : TypeId) (d : Kd α) : Prop :=
  P.cellsOf t = d.sz ∧ ∀ (H : Type) (enc : TypeId × Value → H) (W : World) (base : Nat) (spare : Nat → Bool) (held : Bool) (fuel : Nat) (cs : List Value) (x : DataW H × List MemPlace),
    DataW.trod enc P W base spare held fuel t cs = some x → ∃ y : α, d.R (heapG W) y cs
theorem opens_int {P : Program} {t : TypeId} {k : IntKind} {lo hi : Int} (hc : P.cellsOf t = 1) (ht : P.underlying t = some (.int k)) (hw : ∀ x, (Lit.int k x).wf = true → lo ≤ x ∧ x ≤ hi) : Opens P t (kI k lo hi) :=
  ⟨hc, fun H enc W base spare held fuel cs x h => by
    obtain ⟨n, rfl, _, hwf⟩ := DataW.trod_int ht h
    exact ⟨n, rfl, hw n hwf⟩⟩
theorem opens_slice {α : Type} {P : Program} {t e : TypeId} {d : Kd α} (hc : P.cellsOf t = 1) (ht : P.underlying t = some (.slice e)) (he : Opens P e d) : Opens P t (kS d) :=
  ⟨hc, fun H enc W base spare held fuel cs x h => by
    rcases open_slice ht h with ⟨rfl, _⟩ | ⟨a, len, cap, m, n, D, Pl, rfl, _, hl, hm, hmm, _, hcell⟩
    · exact ⟨[], none, 0, rfl, Kd.S.none_ d _⟩
    · have hle : len ≤ m := by rw [hmm]; split <;> omega
      have hx : ∀ i, i < len → ∃ y : α, ∃ cs', W.cells? base (a.add (i * P.cellsOf e)) (P.cellsOf e) = some cs' ∧ d.R (heapG W) y cs' := by
        intro i hi
        obtain ⟨cs', h1, h2⟩ := hcell i (by omega)
        obtain ⟨y, h3⟩ := he.2 H enc W base spare held n cs' _ h2
        exact ⟨y, cs', h1, h3⟩
      have hpick : ∀ k, k ≤ len → ∃ (ys : List α) (css : List (List Value)), ys.length = k ∧ All2 (d.R (heapG W)) ys css ∧ ∀ i r, css[i]? = some r → W.cells? base (a.add (i * P.cellsOf e)) (P.cellsOf e) = some r := by
        intro k
        induction k with
        | zero => intro _; exact ⟨[], [], rfl, trivial, fun i y hy => by simp at hy⟩
        | succ k ih =>
          intro hk
          obtain ⟨ys, css, hys, h2, hall⟩ := ih (by omega)
          obtain ⟨y, r, hy, hr⟩ := hx k (by omega)
          have hcl := h2.len
          refine ⟨ys ++ [y], css ++ [r], by simp [hys], All2.app (xs' := [y]) (ys' := [r]) ⟨hr, trivial⟩ h2, fun i z hz => ?_⟩
          rcases Nat.lt_or_ge i k with hlt | hge
          · rw [List.getElem?_append_left (by omega)] at hz
            exact hall i z hz
          · have hik : i = k := by
              have := (List.getElem?_eq_some_iff.1 hz).1
              rw [List.length_append, List.length_singleton] at this
              omega
            subst hik
            rw [List.getElem?_append_right (by omega), hcl, hys, Nat.sub_self] at hz
            simp at hz
            subst hz
            exact hy
      obtain ⟨ys, css, hys, h2, hall⟩ := hpick len (Nat.le_refl _)
      have hrl := d.rows_len h2
      refine ⟨ys, some a, cap, by rw [hys], css, h2, ⟨by rw [flen _ hrl, h2.len], by omega, by simpa [maxLen] using hm, fun ad had j v hj => ?_, fun h => by simp at h, ?_⟩⟩
      · simp at had; subst had
        obtain ⟨i, o, r, rfl, hi, ho⟩ := flat_at' css hrl j v hj
        have h3 := World.cells?_some (hall i r hi)
        have hos : o < P.cellsOf e := by rw [he.1, ← hrl r (List.mem_of_getElem? hi)]; exact (List.getElem?_eq_some_iff.1 ho).1
        have h4 := h3.2.2 o hos
        rw [he.1, Go.Deep.add_add, ho] at h4
        exact h4
      · exact Kd.Cs.ones (d := d) (G := heapG W) (l := ys) ⟨css, h2, rfl⟩⟩
where
  flat_at' {k : Nat} : ∀ (l : List (List Value)), (∀ r ∈ l, r.length = k) → ∀ (j : Nat) v, l.flatten[j]? = some v → ∃ (i o : Nat) (r : List Value), j = i * k + o ∧ l[i]? = some r ∧ r[o]? = some v
    | [], _, j, v, h => by simp at h
    | r :: l, hl, j, v, h => by
      rw [List.flatten_cons] at h
      have hr := hl r (by simp)
      rcases Nat.lt_or_ge j r.length with hj | hj
      · rw [List.getElem?_append_left hj] at h
        exact ⟨0, j, r, by omega, by simp, h⟩
      · rw [List.getElem?_append_right hj] at h
        obtain ⟨i, o, r', h1, h2, h3⟩ := flat_at' l (fun r' hr' => hl r' (by simp [hr'])) _ v h
        exact ⟨i + 1, o, r', by rw [Nat.add_mul]; omega, by simpa using h2, h3⟩
/-- The fields from offset o on, each of a kind, n cells in all. -/
inductive OpensF (P : Program) : List Field → Nat → Nat → {β : Type} → (Gh → β → List Value → Prop) → Prop
  | nil (o : Nat) : OpensF P [] o 0 (β := Unit) (fun _ _ cs => cs = [])
  | cons {α β : Type} {f : Field} {fs : List Field} {o n : Nat} {d : Kd α} {R : Gh → β → List Value → Prop} (ho : f.offset = o) (hd : Opens P f.type d) (hr : OpensF P fs (o + d.sz) n R) :
      OpensF P (f :: fs) o (d.sz + n) (β := α × β) (fun G x cs => ∃ c1 c2, cs = c1 ++ c2 ∧ d.R G x.1 c1 ∧ R G x.2 c2)
theorem OpensF.get {P : Program} {fs : List Field} {o n : Nat} {β : Type} {R : Gh → β → List Value → Prop} (h : OpensF P fs o n R) :
    ∀ (H : Type) (enc : TypeId × Value → H) (W : World) (base : Nat) (spare : Nat → Bool) (held : Bool) (m : Nat) (cs : List Value), cs.length = o + n →
      (∀ f ∈ fs, ∃ x, DataW.trod enc P W base spare held m f.type ((cs.drop f.offset).take (P.cellsOf f.type)) = some x) → ∃ y : β, R (heapG W) y (cs.drop o) := by
  induction h with
  | nil o => exact fun H enc W base spare held m cs hl _ => ⟨(), List.drop_eq_nil_of_le (by omega)⟩
  | @cons α β f fs o n d R ho hd hr ih =>
    intro H enc W base spare held m cs hl hf
    obtain ⟨x, hx⟩ := hf f (by simp)
    obtain ⟨y, h1⟩ := hd.2 H enc W base spare held m _ x hx
    obtain ⟨z, h2⟩ := ih H enc W base spare held m cs (by omega) (fun g hg => hf g (by simp [hg]))
    rw [ho, hd.1] at h1
    refine ⟨(y, z), (cs.drop o).take d.sz, cs.drop (o + d.sz), ?_, h1, h2⟩
    rw [← List.drop_drop, List.take_append_drop]
theorem opens_struct {β γ : Type} {P : Program} {t : TypeId} {fs : Array Field} {R : Gh → β → List Value → Prop} {d : Kd γ} (hc : P.cellsOf t = d.sz) (ht : P.underlying t = some (.struct fs)) (hf : OpensF P fs.toList 0 d.sz R)
    (hR : ∀ G x cs, R G x cs → ∃ y, d.R G y cs) : Opens P t d := by
  refine ⟨hc, fun H enc W base spare held fuel cs x h => ?_⟩
  obtain ⟨xs, m, _, _, hl, hxl, hfs⟩ := DataW.trod_struct ht h
  obtain ⟨y, h1⟩ := hf.get H enc W base spare held m cs (by omega) (fun q hq => by
    obtain ⟨i, hi⟩ := List.getElem?_of_mem hq
    have hi' : fs[i]? = some q := by simpa using hi
    have hlt : i < fs.size := (Array.getElem?_eq_some_iff.1 hi').1
    exact ⟨xs[i]'(by omega), by rw [hfs i q hi', List.getElem?_eq_getElem]⟩)
  exact hR _ _ _ (by simpa using h1)
end Go.SX

namespace Go.SX
open Go
set_option linter.unusedVariables false
set_option linter.unusedSimpArgs false
section
variable {E : Env} {ρ : List Value} {H : List Ob} {G : Gh} {w : World}
theorem Ag.env {E' : Env} (h : Ag E ρ H G w) (h1 : E'.w0 = E.w0) (h2 : E'.F = E.F) (h3 : E'.ρ0 = E.ρ0) (h4 : E'.G0 = E.G0) : Ag E' ρ H G w := by
  cases E; cases E'
  dsimp only at h1 h2 h3 h4
  subst h1 h2 h3 h4
  exact ⟨h.len, h.obs, h.apart, h.own, h.ext, h.frame, h.size, h.os, h.tape, h.output, h.old, h.gold, h.gnew⟩
/-- A contract of a function that panics. -/
structure CtP (P : Program) (f : FuncId) (args : List SV) (H : List Ob) (G : Gh) (Pan : Value → List Ob → Gh → Prop) : Prop where
  enters : ∀ (args : Array Value) (w : World), (callFunc f args).run P w = .ok (.enter f args) w
  calls : ∀ ρ w ys, Ag (Fr w ρ G) ρ H G w → Rvs ρ args ys → Calls P f ys.toArray w fun e w' => ∃ x H' G' ρ', e = .panicked [{ v := x, recovered := false }] ∧ Pan x H' G' ∧ Ag (Fr w ρ G) ρ' H' G' w'
theorem fn_ofP {P : Program} (hm : P.follows .mixedOrders = true) (Pl : List (Nat × Plan2)) {f : FuncId} {fn : Func} {body : Code} (hf : P.funcs[f]? = some fn) (hb : fn.body = some body)
    (hname : (fn.name == "runtime.NumGoroutine") = false) {args : List SV} {H : List Ob} {G : Gh} {Pan : Value → List Ob → Gh → Prop}
    (hS : ∀ E : Env, E.ρ0.length = H.length → (∀ x H' G', Fin E (fun sv H2 G2 => sv = .v x ∧ Pan x H2 G2) (.v x) ⟨[], H', G'⟩ → E.Pan x H' G') →
      forceSp (args ++ List.replicate (fn.ntmps - args.length) (.v undef)) fun fr => sxC P E Pl body (Kfin P fn.results.toList (Fin E fun _ _ _ => False)) ⟨fr, H, G⟩) : CtP P f args H G Pan := by
  refine ⟨enters_of hf hname hb, fun ρ w ys hA hargs => ?_⟩
  have hA1 : Ag { Fr w ρ G with Pan := fun x H' G' => ∀ ρ' w', Ag (Fr w ρ G) ρ' H' G' w' → ∃ ρ2 H2 G2, Pan x H2 G2 ∧ Ag (Fr w ρ G) ρ2 H2 G2 w' } ρ H G w := hA.env rfl rfl rfl rfl
  refine (sx_calls hm Pl hf hb rfl rfl hA1 hargs (hS _ hA.len fun x H' G' h ρ' w' hA' => ?_)).mono fun e w' hh => ?_
  · obtain ⟨ρ2, H2, G2, sv2, ⟨rfl, hp⟩, hA2, hr2⟩ := h.out ρ' w' x (hA'.env rfl rfl rfl rfl) (by simp [Rv])
    exact ⟨ρ2, H2, G2, hp, hA2.env rfl rfl rfl rfl⟩
  · rcases hh with ⟨v, sv, s', ρ', rfl, hfin, hA', hr⟩ | ⟨x, H', G', ρ', rfl, hp, hA'⟩
    · obtain ⟨ρ2, H2, G2, sv2, hp, _⟩ := hfin.out ρ' w' v hA' hr
      exact hp.elim
    · obtain ⟨ρ2, H2, G2, hp2, hA2⟩ := hp ρ' w' (hA'.env rfl rfl rfl rfl)
      exact ⟨x, H2, G2, ρ2, rfl, hp2, hA2⟩
/-- A call of a function that panics. -/
theorem call_pn {P : Program} {f : FuncId} {args args0 : List SV} {s : St} {K : List Nat → SV → St → Prop} {H0 : List Ob} {Pan : Value → List Ob → Gh → Prop} (m : List Nat)
    (hf : CtP P f args0 H0 s.G Pan) (hargs : args = maps (rn m s.H.length) args0) (hs : subH m s.H.length s.H m H0) (hm : m.Nodup)
    (hK : ∀ x H' G', Pan x H' G' → (∀ b o, s.G b = some o → G' b = some o) → m.length ≤ H'.length ∧ callEnd m s (.v undef) H' G' fun _ _ s' => E.Pan x s'.H s'.G) : CallVC P E f args s K := by
  refine ⟨hf.enters, fun ρ w ys hA hargs' => ?_⟩
  subst hargs
  have hA0 := hA.sub hs hm
  refine (hf.calls (pick ρ m) w ys hA0 (Rvs.bwd (rn_bwd hA.len) hargs')).mono fun e w' hh => ?_
  obtain ⟨x, H', G', ρ', rfl, hp, hA'⟩ := hh
  obtain ⟨hlen, hend⟩ := hK x H' G' hp hA'.gold
  obtain ⟨ρ2, hA2, hr2, hkm2, hfp⟩ := hA.back hs hm hlen hA'
  rw [callEnd_eq] at hend
  exact .inr ⟨x, _, _, ρ2, rfl, hend, hA2⟩
end
end Go.SX

namespace Go.SX
open Go
set_option linter.unusedVariables false
set_option linter.unusedSimpArgs false
section
variable {E : Env} {ρ : List Value} {H : List Ob} {G : Gh} {w : World}
theorem undef_list {ρ : List Value} : ∀ n, Rvs ρ (List.replicate n (.v undef)) (List.replicate n undef)
  | 0 => by simp [Rvs]
  | n + 1 => by simp only [List.replicate_succ, Rvs]; exact ⟨_, _, rfl, by simp [Rv], undef_list n⟩
/-- What recover hands to the closure, and what becomes of the frame below. -/
def Recs (u u' : FrameMode) (v : Value) : Prop := ∀ (c : Frame) (cs : List Frame), c.mode = u →
  (∃ v' cs', recoverD (c :: cs) = some (v', cs') ∧ v' = v ∧ cs' = { c with mode := u' } :: cs) ∨ (recoverD (c :: cs) = none ∧ v = .nilIface ∧ u' = u)
theorem recs_pan (v : Value) : Recs (.panicking [{ v := v, recovered := false }]) (.panicking [{ v := v, recovered := true }]) v := fun c cs hc => by
  refine .inl ⟨v, { c with mode := .panicking [{ v := v, recovered := true }] } :: cs, ?_, rfl, rfl⟩
  simp [recoverD, hc]
theorem recs_ret : Recs .returning .returning .nilIface := fun c cs hc => .inr ⟨by simp [recoverD, hc], rfl, rfl⟩
/-- A deferred closure: recover, then code. -/
theorem defer_calls {P : Program} (hm : P.follows .mixedOrders = true) (Pl : List (Nat × Plan2)) {g : FuncId} {fn : Func} {i : Nat} {o1 o2 : Oper} {restc : Code} {t5 t2 : Nat}
    (hf : P.funcs[g]? = some fn) (hb : fn.body = some (.seq (.region i #[o1, o2] false) restc))
    (h1 : o1.op = .call { callee := .builtin .recover, args := #[], argTypes := #[] }) (h1d : o1.dst = some t5) (h1g : o1.guard = none)
    (h2 : o2.op = .assign (.tmp t5)) (h2d : o2.dst = some t2) (h2g : o2.guard = none) (hres : fn.results = #[]) (ht5 : t5 < fn.ntmps)
    (hD : E.D = []) (hW : E.W = []) (hPan : ∀ x H G, ¬ E.Pan x H G) {u u' : FrameMode} {v : Value} (hrec : Recs u u' v)
    {args : List SV} {ys : List Value} {C : St → Prop} (hA : Ag E ρ H G w) (hargs : Rvs ρ args ys)
    (hS : forceSp (((args ++ List.replicate (fn.ntmps - args.length) (SV.v undef)).set t5 (SV.v v)).set t2 (SV.v v)) fun fr => sxC P E Pl restc (fun e s => match e with
      | .normal => C s
      | .ret => C s
      | .exit i => BadC (.exit i)) ⟨fr, H, G⟩) :
    CallsD P g ys.toArray u w fun e u'' w' => e = .returned (.tuple #[]) ∧ u'' = u' ∧ ∃ s ρ', C s ∧ Ag E ρ' s.H s.G w' := by
  rw [forceSp_eq] at hS
  have hl := hargs.length
  refine callsD_of_wpS hf hb fun c₀ cs hu => ?_
  refine wpS_seq (wpS_region ?_)
  show wpOpsS P #[o1, o2] _ [0, 1] _ _ _
  have hx1 : ∀ ρ : Operand → Value, (execOp ρ o1).run P w = .ok .recover w := fun ρ => by
    simp [execOp, h1, resolve, invoke, builtin]
  have hfin : ∀ cs', cs' = { c₀ with mode := u' } :: cs → ∀ a : Act, a = (({ tmps := ys.toArray ++ Array.replicate (fn.ntmps - ys.toArray.size) undef, defers := [] } : Act).put o1.dst v) →
      wpOpsS P #[o1, o2] (Exit.thenS (restc.wpS P (bodyPostS P fn c₀ cs fun e u'' w' => e = .returned (.tuple #[]) ∧ u'' = u' ∧ ∃ s ρ', C s ∧ Ag E ρ' s.H s.G w')) (bodyPostS P fn c₀ cs fun e u'' w' => e = .returned (.tuple #[]) ∧ u'' = u' ∧ ∃ s ρ', C s ∧ Ag E ρ' s.H s.G w')) [1] a cs' w := by
    rintro cs' rfl a rfl
    simp only [wpOpsS]
    have hg2 : ∀ y, Region.wanted o2 y = true := fun y => by simp [Region.wanted, h2g]
    simp only [List.getElem?_toArray, List.getElem?_cons_succ, List.getElem?_cons_zero, hg2, if_true]
    have hev : ∀ a : Act, (execOp a.eval o2).run P w = .ok (.value (a.eval (.tmp t5))) w := fun a => by simp [execOp, h2]
    rw [hev]
    simp only [Oper.upon_value, Exit.thenS]
    refine wpS_of_wp ?_
    have hput : (({ tmps := ys.toArray ++ Array.replicate (fn.ntmps - ys.toArray.size) undef, defers := [] } : Act).put o1.dst v) = ({ tmps := (ys.toArray ++ Array.replicate (fn.ntmps - ys.toArray.size) undef).setIfInBounds t5 v, defers := [] } : Act) := by rw [h1d]; rfl
    rw [hput]
    have hval : ({ tmps := (ys.toArray ++ Array.replicate (fn.ntmps - ys.toArray.size) undef).setIfInBounds t5 v, defers := [] } : Act).eval (.tmp t5) = v := by
      simp only [Act.eval, Array.getD_eq_getD_getElem?]
      rw [Array.getElem?_setIfInBounds_self_of_lt (by simp; omega)]
      rfl
    rw [hval, h2d]
    refine sxC_ok hm Pl restc (K := fun e s => match e with
      | .normal => C s
      | .ret => C s
      | .exit i => BadC (.exit i)) ⟨?_, ?_, fun x H' G' hp => absurd hp (hPan x H' G')⟩ hS hA ?_ ⟨hD.symm, by rw [hW]; simp⟩ (okW_nil hW restc)
    · have key : ∀ s', C s' → ∀ ρ' (a' : Act) w', Ag E ρ' s'.H s'.G w' → E.Kp a' → bodyPostS P fn c₀ cs (fun e u'' w' => e = .returned (.tuple #[]) ∧ u'' = u' ∧ ∃ s ρ', C s ∧ Ag E ρ' s.H s.G w') .normal a' ({ c₀ with mode := u' } :: cs) w' := by
        intro s' hs ρ' a' w' hA' hk
        refine ⟨hk.1.trans hD, u', rfl, .tuple #[], ?_, rfl, rfl, s', ρ', hs, hA'⟩
        simp [results, hres]
      intro e s' hs ρ' a' w' hA' hF' hk
      cases e with
      | normal => exact key s' hs ρ' a' w' hA' hk
      | ret => exact key s' hs ρ' a' w' hA' hk
      | exit i => exact hs.no.elim
    · rintro c a d v w - ⟨h1, h2⟩
      exact ⟨by cases d <;> exact h1, h2⟩
    · show Rvs ρ _ (((ys.toArray ++ Array.replicate (fn.ntmps - ys.toArray.size) undef).setIfInBounds t5 v).setIfInBounds t2 v).toList
      simp only [Array.toList_setIfInBounds, Array.toList_append, Array.toList_replicate, List.size_toArray, hl]
      exact Rvs.set_ (by simp [Rv]) (Rvs.set_ (by simp [Rv]) (hargs.append (undef_list _)))
  rw [wpOpsS]
  have hg1 : ∀ y, Region.wanted o1 y = true := fun y => by simp [Region.wanted, h1g]
  simp only [List.getElem?_toArray, List.getElem?_cons_zero, hg1, if_true, hx1]
  rcases hrec c₀ cs hu with ⟨v', cs', hr, rfl, hcs⟩ | ⟨hr, rfl, rfl⟩
  · rw [hr]
    exact hfin cs' hcs _ rfl
  · rw [hr]
    exact hfin _ (by rw [← hu]) _ rfl
/-! ### the function that defers -/
/-- No operation writes into a slot of l; no loops. -/
def noDst (l : List Nat) : Code → Bool
  | .region _ ops _ => ops.toList.all fun o => match o.dst with
    | some t => !memN t l
    | none => true
  | .seq a b => noDst l a && noDst l b
  | .cond _ x y => noDst l x && noDst l y
  | .block _ b => noDst l b
  | .loop _ => false
  | _ => true
theorem noDst_ok (l : List Nat) (hl : ∀ q ∈ E.W, q.1 ∈ l) : ∀ c, noDst l c = true → okW E c
  | .region _ ops _, h => fun o ho q hq e => by
    simp only [noDst] at h
    have h1 := List.all_eq_true.1 h o (by simpa using ho)
    rw [e] at h1
    simp only [memN_iff.2 (hl q hq), Bool.not_true, Bool.false_eq_true] at h1
  | .seq a b, h => by
    simp only [noDst, Bool.and_eq_true] at h
    exact ⟨noDst_ok l hl a h.1, noDst_ok l hl b h.2⟩
  | .cond _ x y, h => by
    simp only [noDst, Bool.and_eq_true] at h
    exact ⟨noDst_ok l hl x h.1, noDst_ok l hl y h.2⟩
  | .block _ b, h => by
    simp only [noDst] at h
    exact noDst_ok l hl b h
  | .loop _, h => by simp [noDst] at h
  | .skip, _ => trivial
  | .label _, _ => trivial
  | .ret, _ => trivial
  | .exit _, _ => trivial
  | .rangeFunc _ _ _ _, _ => trivial
  | .scope _, _ => trivial
  | .goto _, _ => trivial
  | .refuse _, _ => trivial
/-- The results, read at the end. -/
theorem res_end {P : Program} {fn : Func} {Post : SV → St → Prop} {s : St} {a : Act} (hs : sxRes P fn.results.toList s fun vs => match vs with
      | [x] => Post x s
      | [] => Post (.tup []) s
      | x :: y :: l => Post (.tup (x :: y :: l)) s) (hA : Ag E ρ s.H s.G w) (hF : Rvs ρ s.fr a.tmps.toList) :
    ∃ v sv, (results fn a.tmps).run P w = .ok v w ∧ Post sv s ∧ Rv ρ sv v := by
  obtain ⟨svs, vs, hk, hr, hrun⟩ := sxRes_ok fn.results.toList hs hA hF
  have hres : (results fn a.tmps).run P w = .ok (if h : vs.toArray.size = 1 then vs.toArray[0] else .tuple vs.toArray) w := by
    unfold results
    rw [Array.mapM_eq_mapM_toList]
    simp only [Sem.run_bind, Sem.run_map]
    refine Eq.trans (congrArg (fun r : Result (List Value) => (r.andThen fun a w' => Result.ok a.toArray w').andThen fun (a : Array Value) w' => Sem.run P (pure (if h : a.size = 1 then a[0] else Value.tuple a)) w') hrun) ?_
    rfl
  match svs, hk, hr with
  | [], hk, hr =>
    simp only [Rvs] at hr; subst hr
    exact ⟨_, _, hres, hk, by simp [Rv, Rvs]⟩
  | [x], hk, hr =>
    simp only [Rvs] at hr
    obtain ⟨y, yt, rfl, h1, rfl⟩ := hr
    exact ⟨_, _, hres, hk, by simpa using h1⟩
  | x :: y :: l, hk, hr =>
    have hl := hr.length
    refine ⟨_, _, hres, hk, ?_⟩
    rw [dif_neg (by simp at hl ⊢; omega)]
    simp only [Rv]
    exact ⟨_, rfl, by simpa using hr⟩
/-- What must come out where the closure has run behind a panic. -/
def Dres (P : Program) (fn : Func) (tp tq : Nat) (E0 : Env) (Post : SV → List Ob → Gh → Prop) (s : St) : Prop :=
  s.un fun _ H G => forceSp (mkF fn.ntmps [(tp, .p 0 0), (tq, .p 1 0)]) fun fr => sxRes P fn.results.toList ⟨fr, H, G⟩ fun vs => match vs with
    | [x] => Fin E0 Post x ⟨fr, H, G⟩
    | [] => Fin E0 Post (.tup []) ⟨fr, H, G⟩
    | x :: y :: l => Fin E0 Post (.tup (x :: y :: l)) ⟨fr, H, G⟩
theorem base_ptr {x : Value} {b : Nat} {y : Value} (h : ∃ x' b', ρ[b]? = some x' ∧ base x' = some b' ∧ y = .pointer (some ⟨b', 0, none⟩)) (hx : ρ[b]? = some x) (hp : ∃ b' , x = .pointer (some ⟨b', 0, none⟩)) : y = x := by
  obtain ⟨x', b', h1, h2, rfl⟩ := h
  rw [hx] at h1
  cases h1
  obtain ⟨b2, rfl⟩ := hp
  simp [base] at h2
  subst h2; rfl
theorem fn_ofD {P : Program} (hm : P.follows .mixedOrders = true) (Pl Plc : List (Nat × Plan2)) {f g : FuncId} {fn fng : Func} {i0 i1 ic : Nat} {ops0 : Array Oper} {om od o1 o2 : Oper} {rest restc : Code} {tp tq t5 c5 c2 : Nat} {T1 T2 : TypeId}
    (hf : P.funcs[f]? = some fn) (hb : fn.body = some (.seq (.region i0 ops0 false) (.seq (.region i1 #[om, od] false) rest))) (hname : (fn.name == "runtime.NumGoroutine") = false)
    (hom : om.op = .makeFunc (.func g) #[] #[.tmp tp, .tmp tq]) (homd : om.dst = some t5) (homg : om.guard = none)
    (hod : od.op = .defer { callee := .value (.tmp t5), args := #[], argTypes := #[] }) (hodd : od.dst = none) (hodg : od.guard = none)
    (hres : fn.results = #[.cell tp T1, .cell tq T2]) (hpq : tp ≠ t5 ∧ tq ≠ t5 ∧ tp ≠ tq) (htn : tp < fn.ntmps ∧ tq < fn.ntmps) (ht5 : t5 < fn.ntmps) (hno : noDst [tp, tq] rest = true)
    (hfg : P.funcs[g]? = some fng) (hbg : fng.body = some (.seq (.region ic #[o1, o2] false) restc)) (hgn : (fng.name == "runtime.NumGoroutine") = false)
    (h1 : o1.op = .call { callee := .builtin .recover, args := #[], argTypes := #[] }) (h1d : o1.dst = some c5) (h1g : o1.guard = none)
    (h2 : o2.op = .assign (.tmp c5)) (h2d : o2.dst = some c2) (h2g : o2.guard = none) (hresg : fng.results = #[]) (hc5 : c5 < fng.ntmps)
    {args : List SV} {G : Gh} {Post : SV → List Ob → Gh → Prop} {PanD : Value → List Ob → Gh → Prop}
    (hS : ∀ E0 : Env, E0.ρ0.length = 0 → forceSp (args ++ List.replicate (fn.ntmps - args.length) (.v undef)) fun fr => sxC P E0 Pl (.region i0 ops0 false) (fun e s => match e with
      | .normal => s.un fun fr H G1 => nth fr tp = some (.p 0 0) ∧ nth fr tq = some (.p 1 0) ∧ (∃ T1 xs1 T2 xs2, H = [.cells T1 xs1, .cells T2 xs2]) ∧ Nat.beq fr.length fn.ntmps = true ∧
          ∀ E1 : Env, E1.ρ0.length = 2 → (∀ x H' G', Fin E1 (fun sv H2 G2 => sv = .v x ∧ PanD x H2 G2) (.v x) ⟨[], H', G'⟩ → E1.Pan x H' G') →
            forceSp (fr.set t5 (.f (.func g) [] [.p 0 0, .p 1 0])) fun fr' => sxC P E1 Pl rest (Kfin P fn.results.toList (Fin E0 Post)) ⟨fr', H, G1⟩
      | .ret => BadC .ret
      | .exit i => BadC (.exit i)) ⟨fr, [], G⟩)
    (hret : ∀ (E : Env) (p q : Value) (G : Gh), forceSp ((([SV.v p, SV.v q] ++ List.replicate (fng.ntmps - 2) (SV.v undef)).set c5 (SV.v .nilIface)).set c2 (SV.v .nilIface)) fun fr => sxC P E Plc restc (fun e s => match e with
      | .normal => True
      | .ret => True
      | .exit i => BadC (.exit i)) ⟨fr, [], G⟩)
    (hpan : ∀ E0 E : Env, E0.ρ0.length = 0 → E.ρ0.length = 2 → ∀ x H2 G2, PanD x H2 G2 → forceSp ((([SV.p 0 0, SV.p 1 0] ++ List.replicate (fng.ntmps - 2) (SV.v undef)).set c5 (SV.v x)).set c2 (SV.v x)) fun fr => sxC P E Plc restc (fun e s => match e with
      | .normal => Dres P fn tp tq E0 Post s
      | .ret => Dres P fn tp tq E0 Post s
      | .exit i => BadC (.exit i)) ⟨fr, H2, G2⟩) : Ct P f args [] G Post := by
  refine ⟨enters_of hf hname hb, fun ρ w ys hA hargs => ?_⟩
  have hρ0 : ρ = [] := List.eq_nil_of_length_eq_zero hA.len
  subst hρ0
  have hgen := enters_of hfg hgn hbg
  have hl := hargs.length
  refine calls_of_wp_defers hf hb ?_
  refine wp_seq ?_
  have h0 := hS (Fr w [] G) rfl
  rw [forceSp_eq] at h0
  refine wp_mono (Q := fun e a w' => match e with
    | .normal => _
    | _ => False) (sxC_ok hm Pl _ ⟨?_, fun c a d v w' _ h => h, fun x H' G' hp => False.elim hp⟩ h0 hA ?_ ⟨rfl, by intro q hq; exact absurd hq (by simp [Fr])⟩ (okW_nil rfl _)) (fun e a w' h => by cases e <;> first | exact h | exact False.elim h)
  · intro e s1 hs ρ1 a1 w1 hA1 hF1 hk1
    cases e with
    | ret => exact hs.no.elim
    | exit i => exact hs.no.elim
    | normal =>
    show (Code.seq (.region i1 #[om, od] false) rest).wp P _ a1 w1
    rw [St.un_eq] at hs
    obtain ⟨hp1, hq1, ⟨T1', xs1, T2', xs2, hH1⟩, hsz1, hrest⟩ := hs
    rw [nth_eq] at hp1 hq1
    obtain ⟨p, hp2, hp3⟩ := hF1.get hp1
    obtain ⟨q, hq2, hq3⟩ := hF1.get hq1
    have hp2' : a1.tmps[tp]? = some p := by simpa using hp2
    have hq2' : a1.tmps[tq]? = some q := by simpa using hq2
    have hd1 : a1.defers = [] := hk1.1
    have hlen1 : ρ1.length = 2 := by rw [hA1.len, hH1]; rfl
    have hsz1 := Nat.eq_of_beq_eq_true hsz1
    have hsz : a1.tmps.size = fn.ntmps := by have := hF1.length; rw [hsz1] at this; simpa using this
    have hcell : ∀ (i : Nat) T xs, s1.H[i]? = some (.cells T xs) → i < 2 → ∃ b', ρ1[i]? = some (.pointer (some ⟨b', 0, none⟩)) := fun i T xs hHi hi => by
      have hx : ρ1[i]? = some ρ1[i] := List.getElem?_eq_getElem (by omega)
      obtain ⟨b', cs, h9, _⟩ := hA1.obs i _ _ hHi hx
      exact ⟨b', by rw [hx, h9]⟩
    obtain ⟨b0, hr0⟩ := hcell 0 T1' xs1 (by rw [hH1]; rfl) (by omega)
    obtain ⟨b1, hr1⟩ := hcell 1 T2' xs2 (by rw [hH1]; rfl) (by omega)
    simp only [Rv] at hp3 hq3
    have hpe : p = .pointer (some ⟨b0, 0, none⟩) := base_ptr hp3 hr0 ⟨b0, rfl⟩
    have hqe : q = .pointer (some ⟨b1, 0, none⟩) := base_ptr hq3 hr1 ⟨b1, rfl⟩
    clear hp3 hq3
    -- the closure is made and deferred
    refine wp_seq (wp_region_list ?_)
    show wpList P #[om, od] _ [om, od] a1 w1
    have hg1 : ∀ y, Region.wanted om y = true := fun y => by simp [Region.wanted, homg]
    have hg2 : ∀ y, Region.wanted od y = true := fun y => by simp [Region.wanted, hodg]
    have hevp : a1.eval (.tmp tp) = p := by simp only [Act.eval, Array.getD_eq_getD_getElem?, hp2']; rfl
    have hevq : a1.eval (.tmp tq) = q := by simp only [Act.eval, Array.getD_eq_getD_getElem?, hq2']; rfl
    unfold wpList
    rw [if_pos (hg1 _)]
    refine .inl (wp_value (w' := w1) (v := .func (.func g) #[] #[p, q]) (by simp [execOp, hom, Instr.makeFunc, hevp, hevq]) ?_)
    unfold wpList
    rw [if_pos (hg2 _)]
    have hput : a1.put om.dst (.func (.func g) #[] #[p, q]) = ({ tmps := a1.tmps.setIfInBounds t5 (.func (.func g) #[] #[p, q]), defers := [] } : Act) := by
      rw [homd, ← hd1]; rfl
    rw [hput]
    have hev5 : ({ tmps := a1.tmps.setIfInBounds t5 (.func (.func g) #[] #[p, q]), defers := [] } : Act).eval (.tmp t5) = .func (.func g) #[] #[p, q] := by
      simp only [Act.eval, Array.getD_eq_getD_getElem?]
      rw [Array.getElem?_setIfInBounds_self_of_lt (by omega)]
      rfl
    have hrund : (execOp ({ tmps := a1.tmps.setIfInBounds t5 (.func (.func g) #[] #[p, q]), defers := [] } : Act).eval od).run P w1 = .ok (.defer { target := .fn (.func g) #[p, q], args := #[] }) w1 := by
      simp [execOp, hod, resolve, hev5, Deferred.ofValue]
    refine .inl ?_
    unfold Oper.wp
    rw [hrund, Oper.upon_defer, hodd]
    unfold wpList
    -- what follows
    have hA2 : Ag { (Fr w [] G) with ρ0 := ρ1, D := [{ target := .fn (.func g) #[p, q], args := #[] }], W := [(tp, p), (tq, q)], Pan := fun x H' G' => ∀ ρ' w', Ag { (Fr w [] G) with ρ0 := ρ1 } ρ' H' G' w' → ∃ ρ2 H2 G2, PanD x H2 G2 ∧ Ag { (Fr w [] G) with ρ0 := ρ1 } ρ2 H2 G2 w' } ρ1 s1.H s1.G w1 :=
      ⟨hA1.len, hA1.obs, hA1.apart, hA1.own, hA1.ext, hA1.frame, hA1.size, hA1.os, hA1.tape, hA1.output, fun i a h => h, hA1.gold, hA1.gnew⟩
    have hr2 := hrest ({ (Fr w [] G) with ρ0 := ρ1, D := [{ target := .fn (.func g) #[p, q], args := #[] }], W := [(tp, p), (tq, q)], Pan := fun x H' G' => ∀ ρ' w', Ag { (Fr w [] G) with ρ0 := ρ1 } ρ' H' G' w' → ∃ ρ2 H2 G2, PanD x H2 G2 ∧ Ag { (Fr w [] G) with ρ0 := ρ1 } ρ2 H2 G2 w' } : Env) hlen1 (fun x H' G' h ρ' w' hA' => by
      obtain ⟨ρ2, H2, G2, sv2, ⟨rfl, hp⟩, hA3, _⟩ := h.out ρ' w' x (hA'.env rfl rfl rfl rfl) (by simp [Rv])
      exact ⟨ρ2, H2, G2, hp, hA3.env rfl rfl rfl rfl⟩)
    rw [forceSp_eq] at hr2
    have hinv : (invoke (.fn (.func g) #[p, q]) #[]).run P = fun w' => .ok (.enter g #[p, q]) w' := by
      funext w'
      simp only [invoke]
      exact hgen _ w'
    refine wp_mono (Q := fun e a w' => match e with
      | .panic c => Env.Kp { (Fr w [] G) with ρ0 := ρ1, D := [{ target := .fn (.func g) #[p, q], args := #[] }], W := [(tp, p), (tq, q)] } a ∧ ∃ x ρ2 H2 G2, c = [{ v := x, recovered := false }] ∧ PanD x H2 G2 ∧ Ag { (Fr w [] G) with ρ0 := ρ1 } ρ2 H2 G2 w'
      | .normal => Leaves P fn a.tmps (fun e w' => ∃ v sv H' G' ρ', e = .returned v ∧ Post sv H' G' ∧ Ag (Fr w [] G) ρ' H' G' w' ∧ Rv ρ' sv v) a.defers .returning w'
      | .ret => Leaves P fn a.tmps (fun e w' => ∃ v sv H' G' ρ', e = .returned v ∧ Post sv H' G' ∧ Ag (Fr w [] G) ρ' H' G' w' ∧ Rv ρ' sv v) a.defers .returning w'
      | _ => False) (sxC_ok hm Pl rest ⟨?_, ?_, ?_⟩ hr2 hA2 ?_ ⟨rfl, ?_⟩ (noDst_ok [tp, tq] (by simp) rest hno)) ?_
    · -- a return
      have key : ∀ s', (sxRes P fn.results.toList s' fun vs => match vs with
          | [x] => Fin (Fr w [] G) Post x s'
          | [] => Fin (Fr w [] G) Post (.tup []) s'
          | x :: y :: l => Fin (Fr w [] G) Post (.tup (x :: y :: l)) s') → ∀ ρ' (a' : Act) w', Ag { (Fr w [] G) with ρ0 := ρ1, D := [{ target := .fn (.func g) #[p, q], args := #[] }], W := [(tp, p), (tq, q)], Pan := fun x H' G' => ∀ ρ' w', Ag { (Fr w [] G) with ρ0 := ρ1 } ρ' H' G' w' → ∃ ρ2 H2 G2, PanD x H2 G2 ∧ Ag { (Fr w [] G) with ρ0 := ρ1 } ρ2 H2 G2 w' } ρ' s'.H s'.G w' → Rvs ρ' s'.fr a'.tmps.toList → a'.defers = [{ target := .fn (.func g) #[p, q], args := #[] }] →
          Leaves P fn a'.tmps (fun e w' => ∃ v sv H' G' ρ', e = .returned v ∧ Post sv H' G' ∧ Ag (Fr w [] G) ρ' H' G' w' ∧ Rv ρ' sv v) a'.defers .returning w' := by
        intro s' hs' ρ' a' w' hA' hF' hk'
        rw [hk']
        refine leaves_cons (by simp) (by rw [hinv]) ?_
        have hAs : Ag (Fr w' [] s'.G) [] [] s'.G w' := by
          have := hA'.sub (m := []) (H0 := []) trivial (by simp)
          exact this
        refine (defer_calls hm Plc hfg hbg h1 h1d h1g h2 h2d h2g hresg hc5 rfl rfl (fun _ _ _ h => h) recs_ret hAs (args := [.v p, .v q]) (ys := [p, q]) (by simp [Rvs, Rv]) (C := fun _ => True) (hret _ p q _)).mono ?_
        rintro e u'' w'' ⟨rfl, rfl, s2, ρ2, -, hA4⟩
        have hfrm : ∀ b, b < w'.heap.size → w''.heap[b]? = w'.heap[b]? := fun b hb => hA4.frame b hb (fun ⟨i, x, hx, _⟩ => by simp at hx)
        have hA5 := hA'.later hfrm hA4.size hA4.os hA4.tape hA4.output
        obtain ⟨v, sv, hrun, hfin, hrv⟩ := res_end hs' hA5 hF'
        have hA6 : Ag (Fr w [] G) ρ' s'.H s'.G w'' := ⟨hA5.len, hA5.obs, hA5.apart, hA5.own, hA5.ext, hA5.frame, hA5.size, hA5.os, hA5.tape, hA5.output, fun i a h => by simp [Fr] at h, hA5.gold, hA5.gnew⟩
        obtain ⟨ρ3, H3, G3, sv3, hp3, hA7, hr3⟩ := hfin.out ρ' w'' v hA6 hrv
        exact ⟨v, hrun, v, sv3, H3, G3, ρ3, rfl, hp3, hA7, hr3⟩
      intro e s' hs' ρ' a' w' hA' hF' hk'
      cases e with
      | normal => exact key s' hs' ρ' a' w' hA' hF' hk'.1
      | ret => exact key s' hs' ρ' a' w' hA' hF' hk'.1
      | exit i => exact hs'.no.elim
    · rintro c a d v w' hd ⟨⟨h3, h4⟩, h5⟩
      refine ⟨⟨by cases d <;> exact h3, fun r hr => ?_⟩, h5⟩
      have h6 := h4 r hr
      cases d with
      | none => exact h6
      | some t =>
        have hne : t ≠ r.1 := fun e => hd r hr (by rw [e])
        have h7 : (a.tmps.setIfInBounds t v)[r.1]? = some r.2 := h6
        rwa [Array.getElem?_setIfInBounds_ne hne] at h7
    · intro x H' G' hp ρ' a' w' hA' hk'
      obtain ⟨ρ2, H2, G2, hpd, hA3⟩ := hp ρ' w' (hA'.env rfl rfl rfl rfl)
      exact ⟨hk', x, ρ2, H2, G2, rfl, hpd, hA3⟩
    · show Rvs ρ1 _ (a1.tmps.setIfInBounds t5 _).toList
      rw [Array.toList_setIfInBounds]
      refine Rvs.set_ ?_ hF1
      simp only [Rv]
      refine ⟨_, _, rfl, by simp [Rvs], ?_⟩
      simp only [Rvs, Rv]
      exact ⟨p, _, rfl, ⟨_, b0, hr0, rfl, hpe⟩, q, _, rfl, ⟨_, b1, hr1, rfl, hqe⟩, rfl⟩
    · intro r hr
      simp at hr
      rcases hr with rfl | rfl
      · show (a1.tmps.setIfInBounds t5 _)[tp]? = some p
        rw [Array.getElem?_setIfInBounds_ne (fun e => hpq.1 e.symm)]; exact hp2'
      · show (a1.tmps.setIfInBounds t5 _)[tq]? = some q
        rw [Array.getElem?_setIfInBounds_ne (fun e => hpq.2.1 e.symm)]; exact hq2'
    · intro e a' w' h
      cases e with
      | normal => exact h
      | ret => exact h
      | exit i => exact False.elim h
      | goto l => exact False.elim h
      | outgrown => exact False.elim h
      | panic c =>
      obtain ⟨⟨hk1', hk2'⟩, x, ρ2, H2, G2, rfl, hpd, hA3⟩ := h
      have hap : a'.tmps[tp]? = some p := hk2' (tp, p) (by simp)
      have haq : a'.tmps[tq]? = some q := hk2' (tq, q) (by simp)
      show Leaves P fn a'.tmps _ a'.defers (.panicking [{ v := x, recovered := false }]) w'
      rw [show a'.defers = [{ target := .fn (.func g) #[p, q], args := #[] }] from hk1']
      refine leaves_cons (by simp) (by rw [hinv]) ?_
      have ho0 : ρ2[0]? = some p := by rw [hpe]; exact hA3.old 0 _ hr0
      have ho1 : ρ2[1]? = some q := by rw [hqe]; exact hA3.old 1 _ hr1
      have hl2 : 2 ≤ ρ2.length := by have := (List.getElem?_eq_some_iff.1 ho1).1; omega
      have hA8 : Ag { (Fr w [] G) with ρ0 := [p, q] } ρ2 H2 G2 w' := ⟨hA3.len, hA3.obs, hA3.apart, hA3.own, hA3.ext, hA3.frame, hA3.size, hA3.os, hA3.tape, hA3.output, fun i a h => by
        match i, h with
        | 0, h => simp at h; rw [ho0, h]
        | 1, h => simp at h; rw [ho1, h]
        | i + 2, h => simp at h, hA3.gold, hA3.gnew⟩
      refine (defer_calls hm Plc hfg hbg h1 h1d h1g h2 h2d h2g hresg hc5 rfl rfl (fun _ _ _ h => h) (recs_pan x) hA8 (args := [.p 0 0, .p 1 0]) (ys := [p, q]) ?_ (C := Dres P fn tp tq (Fr w [] G) Post) (hpan (Fr w [] G) _ rfl rfl x H2 G2 hpd)).mono ?_
      · simp only [Rvs, Rv]
        exact ⟨p, _, rfl, ⟨_, b0, ho0, by rw [hpe]; rfl, hpe⟩, q, _, rfl, ⟨_, b1, ho1, by rw [hqe]; rfl, hqe⟩, rfl⟩
      rintro e u'' w'' ⟨rfl, rfl, s2, ρ3, hC, hA4⟩
      show Leaves P fn a'.tmps _ [] .returning w''
      have hA6 : Ag (Fr w [] G) ρ3 s2.H s2.G w'' := ⟨hA4.len, hA4.obs, hA4.apart, hA4.own, hA4.ext, hA4.frame, hA4.size, hA4.os, hA4.tape, hA4.output, fun i a h => by simp [Fr] at h, hA4.gold, hA4.gnew⟩
      have hq0 : ρ3[0]? = some p := by rw [hpe]; exact hA4.old 0 _ (by rw [← hpe]; rfl)
      have hq1 : ρ3[1]? = some q := by rw [hqe]; exact hA4.old 1 _ (by rw [← hqe]; rfl)
      unfold Dres at hC
      rw [St.un_eq, forceSp_eq] at hC
      have hlm : ∀ n (x y : SV), (mkF n [(tp, x), (tq, y)]) = ((List.replicate n SV.dead).set tp x).set tq y := fun n x y => rfl
      obtain ⟨v, sv, hrun, hfin, hrv⟩ := res_end (fn := fn) (Post := fun sv s => Fin (Fr w [] G) Post sv s) (a := { tmps := ((Array.replicate fn.ntmps undef).setIfInBounds tp p).setIfInBounds tq q, defers := [] }) hC hA6 (by
        rw [hlm]
        simp only [Array.toList_setIfInBounds, Array.toList_replicate]
        refine Rvs.set_ ?_ (Rvs.set_ ?_ ?_)
        · simp only [Rv]; exact ⟨_, b1, hq1, by rw [hqe]; rfl, hqe⟩
        · simp only [Rv]; exact ⟨_, b0, hq0, by rw [hpe]; rfl, hpe⟩
        · have := Rvs.dead_ (ρ := ρ3) (List.replicate fn.ntmps undef)
          rwa [List.length_replicate] at this)
      have hsame : (results fn a'.tmps).run P w'' = (results fn (((Array.replicate fn.ntmps undef).setIfInBounds tp p).setIfInBounds tq q)).run P w'' := by
        have e1 : a'.tmps.getD tp undef = p := by rw [Array.getD_eq_getD_getElem?, hap]; rfl
        have e2 : a'.tmps.getD tq undef = q := by rw [Array.getD_eq_getD_getElem?, haq]; rfl
        have e3 : (((Array.replicate fn.ntmps undef).setIfInBounds tp p).setIfInBounds tq q).getD tp undef = p := by
          rw [Array.getD_eq_getD_getElem?, Array.getElem?_setIfInBounds_ne (fun e => hpq.2.2 e.symm), Array.getElem?_setIfInBounds_self_of_lt (by simpa using htn.1)]; rfl
        have e4 : (((Array.replicate fn.ntmps undef).setIfInBounds tp p).setIfInBounds tq q).getD tq undef = q := by
          rw [Array.getD_eq_getD_getElem?, Array.getElem?_setIfInBounds_self_of_lt (by simpa using htn.2)]; rfl
        unfold results
        rw [hres, Array.mapM_eq_mapM_toList, Array.mapM_eq_mapM_toList]
        simp only [List.mapM_cons, List.mapM_nil, e1, e2, e3, e4]
      obtain ⟨ρ4, H4, G4, sv4, hp4, hA7, hr4⟩ := hfin.out ρ3 w'' v hA6 hrv
      exact ⟨v, by rw [hsame]; exact hrun, v, sv4, H4, G4, ρ4, rfl, hp4, hA7, hr4⟩
  · simp only [Array.toList_append, Array.toList_replicate, List.size_toArray, hl]
    exact hargs.append (undef_list _)
end
end Go.SX

namespace Go.SX
set_option linter.unusedVariables false
set_option linter.unusedSimpArgs false
/-- The operations that one waits for. -/
def prd (ops : Array Oper) (j : Nat) : List Nat := match ops[j]? with
  | some o => (o.after.toList.filter fun e => Region.binds .any e).map fun e => e.on
  | none => []
theorem anc_prd (ops : Array Oper) (n j k : Nat) : anc ops (n + 1) j k = true ↔ ∃ x ∈ prd ops j, x = k ∨ anc ops n x k = true := by
  simp only [anc, prd]
  cases hj : ops[j]? with
  | none => simp
  | some o =>
    simp only [Array.any_eq_true', Bool.and_eq_true, Bool.or_eq_true, beq_iff_eq, List.mem_map, List.mem_filter, Array.mem_toList_iff]
    constructor
    · rintro ⟨e, he, hb, h⟩; exact ⟨e.on, ⟨e, ⟨he, hb⟩, rfl⟩, h⟩
    · rintro ⟨_, ⟨e, ⟨he, hb⟩, rfl⟩, h⟩; exact ⟨e, he, hb, h⟩
theorem anc_up (ops : Array Oper) : ∀ (n j k : Nat), anc ops n j k = true → anc ops (n + 1) j k = true
  | 0, j, k, h => by simp [anc] at h
  | n + 1, j, k, h => by
    obtain ⟨x, hx, h1⟩ := (anc_prd ops n j k).1 h
    exact (anc_prd ops (n + 1) j k).2 ⟨x, hx, h1.imp id (anc_up ops n x k)⟩
theorem anc_le (ops : Array Oper) {n m j k : Nat} (h : anc ops n j k = true) (hm : n ≤ m) : anc ops m j k = true := by
  induction hm with
  | refl => exact h
  | step _ ih => exact anc_up ops _ j k ih
theorem anc_ext (ops : Array Oper) : ∀ (n j x y : Nat), anc ops n j x = true → y ∈ prd ops x → anc ops (n + 1) j y = true
  | 0, j, x, y, h, _ => by simp [anc] at h
  | n + 1, j, x, y, h, hy => by
    obtain ⟨z, hz, h1⟩ := (anc_prd ops n j x).1 h
    refine (anc_prd ops (n + 1) j y).2 ⟨z, hz, .inr ?_⟩
    rcases h1 with rfl | h1
    · exact (anc_prd ops n z y).2 ⟨y, hy, .inl rfl⟩
    · exact anc_ext ops n z x y h1 hy
/-- All that one waits for, of which some is seen and some is left to do. -/
def clo (ops : Array Oper) : Nat → List Nat → List Nat → List Nat
  | 0, _, seen => seen
  | n + 1, [], seen => seen
  | n + 1, x :: todo, seen => match memN x seen with
    | true => clo ops n todo seen
    | false => clo ops n (prd ops x ++ todo) (x :: seen)
def downB (ops : Array Oper) : Bool := (List.range ops.size).all fun j => (prd ops j).all fun y => Nat.blt y j
theorem down_ok {ops : Array Oper} (h : downB ops = true) (j y : Nat) (hy : y ∈ prd ops j) : y < j := by
  by_cases hj : j < ops.size
  · have h1 := List.all_eq_true.1 h j (List.mem_range.2 hj)
    have h2 := List.all_eq_true.1 h1 y hy
    simp [Nat.blt] at h2
    omega
  · unfold prd at hy
    rw [Array.getElem?_eq_none (by omega)] at hy
    simp at hy
theorem clo_ok {ops : Array Oper} (hd : downB ops = true) (j : Nat) : ∀ (n : Nat) (todo seen : List Nat),
    (∀ x ∈ todo, x < j ∧ anc ops (j - x) j x = true) → (∀ x ∈ seen, x < j ∧ anc ops (j - x) j x = true) → ∀ x ∈ clo ops n todo seen, x < j ∧ anc ops (j - x) j x = true
  | 0, _, seen, _, hs, x, hx => hs x hx
  | n + 1, [], seen, _, hs, x, hx => hs x hx
  | n + 1, y :: todo, seen, ht, hs, x, hx => by
    simp only [clo] at hx
    split at hx
    · exact clo_ok hd j n todo seen (fun z hz => ht z (List.mem_cons_of_mem _ hz)) hs x hx
    · refine clo_ok hd j n _ _ (fun z hz => ?_) (fun z hz => ?_) x hx
      · rcases List.mem_append.1 hz with hz | hz
        · have h1 := ht y (by simp)
          have h2 := down_ok hd y z hz
          refine ⟨by omega, anc_le ops (anc_ext ops _ j y z h1.2 hz) (by omega)⟩
        · exact ht z (List.mem_cons_of_mem _ hz)
      · rcases List.mem_cons.1 hz with rfl | hz
        · exact ht z (by simp)
        · exact hs z hz
def ancF (ops : Array Oper) (i : Nat) (ks : List Nat) : Bool := match ks with
  | [] => true
  | _ => (fun S : List Nat => ks.all fun k => memN k S) (clo ops (ops.size * ops.size) (prd ops i) [])
theorem ancF_ok {ops : Array Oper} (hd : downB ops = true) {i : Nat} (hi : i < ops.size) {ks : List Nat} (h : ancF ops i ks = true) : ks.all (anc ops ops.size i) = true := by
  refine List.all_eq_true.2 fun k hk => ?_
  have h1 : ks.all (fun k => memN k (clo ops (ops.size * ops.size) (prd ops i) [])) = true := by
    cases ks with
    | nil => simp at hk
    | cons a l => exact h
  have h2 := memN_iff.1 (List.all_eq_true.1 h1 k hk)
  have h3 := clo_ok hd i _ _ _ (fun x hx => ⟨down_ok hd i x hx, by
    have h4 := down_ok hd i x hx
    obtain ⟨m, hm⟩ : ∃ m, i - x = m + 1 := ⟨i - x - 1, by omega⟩
    rw [hm]
    exact (anc_prd ops m i x).2 ⟨x, hx, .inl rfl⟩⟩) (by simp) k h2
  exact anc_le ops h3.2 (by omega)
mutual
def planOkF (ops : Array Oper) : PT → Array Bool → List Nat → Bool
  | .nil, listed, _ => (Region.ready .any ops listed).isEmpty
  | .cons i ks pl, listed, rel => match ops[i]? with
    | some o => if isEff o.op then Region.ready .any ops listed == [i] && rel.all ks.contains && ancF ops i ks && planOkF ops pl (listed.setIfInBounds i true) ks
      else (Region.ready .any ops listed).contains i && Region.free .any ops listed i && planOkF ops pl (listed.setIfInBounds i true) rel
    | none => false
  | .alt a b, listed, rel => !(Region.ready .any ops listed).isEmpty && (Region.ready .any ops listed).all (a.heads ++ b.heads).contains && altOkF ops a listed rel && altOkF ops b listed rel
def altOkF (ops : Array Oper) : PT → Array Bool → List Nat → Bool
  | .nil, _, _ => false
  | .cons i ks pl, listed, rel => match ops[i]? with
    | some o => isEff o.op && rel.all ks.contains && ancF ops i ks && planOkF ops pl (listed.setIfInBounds i true) ks
    | none => false
  | .alt a b, listed, rel => altOkF ops a listed rel && altOkF ops b listed rel
end
theorem lt_of_get {ops : Array Oper} {i : Nat} {o : Oper} (h : ops[i]? = some o) : i < ops.size := (Array.getElem?_eq_some_iff.1 h).1
mutual
theorem planF_ok {ops : Array Oper} (hd : downB ops = true) : ∀ (pl : PT) (listed : Array Bool) (rel : List Nat), planOkF ops pl listed rel = true → planOk ops pl listed rel = true
  | .nil, listed, rel, h => by simpa only [planOkF, planOk] using h
  | .cons i ks pl, listed, rel, h => by
    simp only [planOkF] at h
    simp only [planOk]
    cases ho : ops[i]? with
    | none => rw [ho] at h; simp at h
    | some o =>
      rw [ho] at h
      simp only at h ⊢
      split
      · rename_i he
        rw [if_pos he] at h
        simp only [Bool.and_eq_true] at h ⊢
        exact ⟨⟨h.1.1, ancF_ok hd (lt_of_get ho) h.1.2⟩, planF_ok hd pl _ _ h.2⟩
      · rename_i he
        rw [if_neg he] at h
        simp only [Bool.and_eq_true] at h ⊢
        exact ⟨h.1, planF_ok hd pl _ _ h.2⟩
  | .alt a b, listed, rel, h => by
    simp only [planOkF, Bool.and_eq_true] at h
    simp only [planOk, Bool.and_eq_true]
    exact ⟨⟨h.1.1, altF_ok hd a _ _ h.1.2⟩, altF_ok hd b _ _ h.2⟩
theorem altF_ok {ops : Array Oper} (hd : downB ops = true) : ∀ (pl : PT) (listed : Array Bool) (rel : List Nat), altOkF ops pl listed rel = true → altOk ops pl listed rel = true
  | .nil, listed, rel, h => by simp [altOkF] at h
  | .cons i ks pl, listed, rel, h => by
    simp only [altOkF] at h
    simp only [altOk]
    cases ho : ops[i]? with
    | none => rw [ho] at h; simp at h
    | some o =>
      rw [ho] at h
      simp only [Bool.and_eq_true] at h ⊢
      exact ⟨⟨h.1.1, ancF_ok hd (lt_of_get ho) h.1.2⟩, planF_ok hd pl _ _ h.2⟩
  | .alt a b, listed, rel, h => by
    simp only [altOkF, Bool.and_eq_true] at h
    simp only [altOk, Bool.and_eq_true]
    exact ⟨altF_ok hd a _ _ h.1, altF_ok hd b _ _ h.2⟩
end
def drawOkF (ops : Array Oper) (pl : Plan2) : Bool := downB ops && (Region.noSelect ops && Nat.ble pl.len ops.size && planOkF ops pl (Array.replicate ops.size false) [])
theorem drw_fast {ops : Array Oper} {pl : Plan2} {A : Prop} (h : drawOkF ops pl = true) (ha : A) : DrawVC ops pl A := by
  unfold drawOkF at h
  simp only [Bool.and_eq_true] at h
  refine ⟨?_, ha⟩
  unfold drawOk
  simp only [Bool.and_eq_true]
  exact ⟨h.2.1, planF_ok h.1 pl _ _ h.2.2⟩
end Go.SX

namespace Go.SX
open Go
set_option linter.unusedVariables false
set_option linter.unusedSimpArgs false
section
variable {E : Env} {ρ : List Value} {H : List Ob} {G G' : Gh} {w : World}
/-- Object i is done, and all of its block is known. -/
theorem gh_doneW {s : St} (i : Nat) {e sz n : Nat} {xs : List Value} (hH : nth s.H i = some (.row e sz n xs)) (h1 : ∀ v ∈ xs, v.oneCell' = true) :
    Gh1 s [i] fun g s' => ∃ A c G', Ghe s.G G' ∧ Fresh s.G A ∧ Whl G' A xs ∧ Sl G' A n c sz xs ∧ g = SV.fz i (.slice A n c) ∧ s' = fzSt i (.slice A n c) s G' := by
  refine ⟨fun E ρ w hA => ?_⟩
  rw [nth_eq] at hH
  obtain ⟨A, c, G', hρ, hg, hf, hw, hsl, hA'⟩ := hA.done5 hH h1
  refine ⟨_, _, ρ.set i .nilFunc, ⟨A, c, G', hg, hf, hw, hsl, rfl, rfl⟩, by unfold fzSt; rw [obfz_eq]; exact hA', fun sv v hr => hr.fz_ hρ _, fun zs hz => hz.fz_ hρ _, fun j x hj hx => ?_, fun j y b hy hb => ?_, hg⟩
  · rw [List.getElem?_set_ne (fun e => hj (by simp [e]))]; exact hx
  · by_cases hij : i = j
    · subst hij
      rw [List.getElem?_set_self (List.getElem?_eq_some_iff.1 hρ).1] at hy
      simp at hy; subst hy; simp [blkOf] at hb
    · rw [List.getElem?_set_ne hij] at hy; exact hy
theorem call_fzW {P : Program} {f : FuncId} {args : List SV} {s : St} {K : List Nat → SV → St → Prop} (i : Nat) {e sz n : Nat} {xs : List Value} (hH : nth s.H i = some (.row e sz n xs)) (h1 : ∀ v ∈ xs, v.oneCell' = true)
    (he : ∀ (args : Array Value) (w : World), (callFunc f args).run P w = .ok (.enter f args) w)
    (h : ∀ A c G', Ghe s.G G' → Fresh s.G A → Whl G' A xs → Sl G' A n c sz xs → forceL (fzs i (.slice A n c) args) fun args' => forceL (fzs i (.slice A n c) s.fr) fun fr' => forceObs ((obfz i (.slice A n c) s.H).set i .gone) fun H' => CallVC P E f args' ⟨fr', H', G'⟩ fun T' => K (i :: T')) : CallVC P E f args s K := by
  refine call_gh (gh_doneW i hH h1) he ?_
  rintro _ _ ⟨A, c, G', hg, hf, hw, hs, rfl, rfl⟩
  have := h A c G' hg hf hw hs
  rw [forceL_eq, forceL_eq, forceObs_eq] at this
  rw [svmap_fz]
  exact this
theorem fin_fzW {Post : SV → List Ob → Gh → Prop} {sv : SV} {s : St} (i : Nat) {e sz n : Nat} {xs : List Value} (hH : nth s.H i = some (.row e sz n xs)) (h1 : ∀ v ∈ xs, v.oneCell' = true)
    (h : ∀ A c G', Ghe s.G G' → Fresh s.G A → Whl G' A xs → Sl G' A n c sz xs → forceSV (sv.fz i (.slice A n c)) fun sv' => forceL (fzs i (.slice A n c) s.fr) fun fr' => forceObs ((obfz i (.slice A n c) s.H).set i .gone) fun H' => Fin E Post sv' ⟨fr', H', G'⟩) : Fin E Post sv s := by
  refine fin_gh (gh_doneW i hH h1) ?_
  rintro _ _ ⟨A, c, G', hg, hf, hw, hs, rfl, rfl⟩
  have := h A c G' hg hf hw hs
  rw [forceSV_eq, forceL_eq, forceObs_eq] at this
  exact this
/-! ### what is known elsewhere stays -/
/-- Only b may have changed. -/
def Off (b : Nat) (G G' : Gh) : Prop := ∀ k, k ≠ b → G' k = G k
theorem Off.refl (b : Nat) (G : Gh) : Off b G G := fun _ _ => rfl
theorem Off.trans {b : Nat} {G G' G2 : Gh} (h : Off b G G') (h' : Off b G' G2) : Off b G G2 := fun k hk => (h' k hk).trans (h k hk)
theorem Off.ghe {b : Nat} {G0 G G' : Gh} (h : Off b G G') (hg : Ghe G0 G) (hb : G0 b = none) : Ghe G0 G' := fun k o ho => by
  have hk : k ≠ b := fun e => by subst e; rw [hb] at ho; cases ho
  rw [h k hk]; exact hg k o ho
theorem Off.sl {b : Nat} (h : Off b G G') {A : Option Addr} {n c sz : Nat} {cs : List Value} (hs : Sl G A n c sz cs) (hne : ∀ ad, A = some ad → ad.block ≠ b) : Sl G' A n c sz cs := by
  refine ⟨hs.len, hs.cap, hs.top, fun ad had j v hj => ?_, hs.nil, hs.ones⟩
  have h1 := hs.there ad had j v hj
  have hb : (ad.add j).block = ad.block := by unfold Addr.add; split <;> rfl
  unfold Gcell at h1 ⊢
  rw [h _ (by rw [hb]; exact hne ad had)]
  exact h1
theorem Off.whl {b : Nat} (h : Off b G G') {A : Option Addr} {xs : List Value} (hs : Whl G A xs) (hne : ∀ ad, A = some ad → ad.block ≠ b) : Whl G' A xs := fun ad had => by
  obtain ⟨h1, h2, cur, T, h3, h4⟩ := hs ad had
  exact ⟨h1, h2, cur, T, by rw [h _ (hne ad had)]; exact h3, h4⟩
/-- A slice that was fresh where another was known. -/
theorem Whl.ne {A B : Option Addr} {xs : List Value} (h : Whl G A xs) (hf : Fresh G B) : ∀ a b, A = some a → B = some b → a.block ≠ b.block := fun a b ha hb e => by
  obtain ⟨_, _, cur, T, h3, _⟩ := h a ha
  have := hf b hb
  rw [← e, h3] at this; cases this
theorem Whl.sl {A : Option Addr} {n c sz : Nat} {xs : List Value} (h : Whl G A xs) (hl : xs.length = n * sz) (hc : n ≤ c) (ht : c ≤ 9223372036854775807) (hn : A = none → n = 0 ∧ c = 0) (h1 : ∀ v ∈ xs, v.oneCell' = true) : Sl G A n c sz xs := by
  refine ⟨hl, hc, ht, fun ad had j v hj => ?_, hn, h1⟩
  obtain ⟨hsp, hof, cur, T, h3, h4⟩ := h ad had
  obtain ⟨b, off, spot⟩ := ad
  dsimp only at hsp hof h3
  subst hsp hof
  rw [add_off, Nat.zero_add]
  simp only [Gcell, h3]
  rw [← h4, List.getElem?_take] at hj
  split at hj
  · simpa using hj
  · simp at hj
/-- A store into an element of a block of which all is known. -/
theorem th_vc {a ad : Addr} {xs : List Value} {j : Nat} {u : Value} {fr : List SV} {Hs : List Ob} {K : St → Prop} (hW : Whl G (some a) xs) (hE : E.G0 a.block = none) (hj : j < xs.length) (had : ad = a.add j) (hu : u.oneCell' = true)
    (hK : ∀ G', Whl G' (some a) (xs.set j u) → Off a.block G G' → K ⟨fr, Hs, G'⟩) :
    ∃ (cs : Array Value) (T' : TypeId), G ad.block = some (.cells cs T' (0, 0)) ∧ E.G0 ad.block = none ∧ ad.spot = none ∧ ad.off < cs.size ∧ u.oneCell' = true ∧ K ⟨fr, Hs, putG G ad.block (.cells (cs.toList.set ad.off u).toArray T' (0, 0))⟩ := by
  obtain ⟨hsp, hof, cur, T, h3, h4⟩ := hW a rfl
  obtain ⟨b, off, spot⟩ := a
  dsimp only at hsp hof h3 hE hK
  subst hsp hof
  rw [add_off, Nat.zero_add] at had
  subst had
  have hsz : xs.length ≤ cur.size := by
    have := congrArg List.length h4
    rw [List.length_take] at this
    simp at this; omega
  refine ⟨cur, T, h3, hE, rfl, by dsimp only; omega, hu, hK _ ?_ ?_⟩
  · intro a' ha'
    cases ha'
    refine ⟨rfl, rfl, _, T, by unfold putG; rw [if_pos rfl], ?_⟩
    rw [List.length_set]
    show ((cur.toList.set j u).toArray.toList).take xs.length = xs.set j u
    rw [List.toList_toArray, List.take_set, h4]
  · intro k hk
    unfold putG
    rw [if_neg hk]
/-- As fn_of, and what nobody changes is what was known. -/
theorem fn_ofG {P : Program} (hm : P.follows .mixedOrders = true) (Pl : List (Nat × Plan2)) {f : FuncId} {fn : Func} {body : Code} (hf : P.funcs[f]? = some fn) (hb : fn.body = some body)
    (hname : (fn.name == "runtime.NumGoroutine") = false) {args : List SV} {H : List Ob} {G : Gh} {Post : SV → List Ob → Gh → Prop}
    (hS : ∀ E : Env, E.ρ0.length = H.length → E.G0 = G → forceSp (args ++ List.replicate (fn.ntmps - args.length) (.v undef)) fun fr => sxC P E Pl body (Kfin P fn.results.toList (Fin E Post)) ⟨fr, H, G⟩) : Ct P f args H G Post := by
  refine ⟨enters_of hf hname hb, fun ρ w ys hA hargs => ?_⟩
  refine (sx_calls hm Pl hf hb rfl rfl hA hargs (hS _ hA.len rfl)).mono fun e w' hh => ?_
  rcases hh with ⟨v, sv, s', ρ', rfl, hfin, hA', hr⟩ | ⟨x, H', G', ρ', rfl, hp, hA'⟩
  case inr => exact hp.elim
  obtain ⟨ρ2, H2, G2, sv2, hp, hA2, hr2⟩ := hfin.out ρ' w' v hA' hr
  exact ⟨v, sv2, H2, G2, ρ2, rfl, hp, hA2, hr2⟩
end
end Go.SX

namespace Go.SX
open Go
set_option linter.unusedVariables false
set_option linter.unusedSimpArgs false
section
variable {E : Env} {G G' G0 : Gh} {B : Nat → Prop}
/-- Blocks of B may have other values, cell by cell. -/
structure Sim (B : Nat → Prop) (G G' : Gh) : Prop where
  off : ∀ b, ¬ B b → G' b = G b
  on : ∀ b, B b → ∀ (cs : Array Value) (T : TypeId), G b = some (.cells cs T (0, 0)) → ∃ cs' : Array Value, G' b = some (.cells cs' T (0, 0)) ∧ cs'.size = cs.size ∧ ∀ (j : Nat) v, cs'[j]? = some v → cs[j]? = some v ∨ v.oneCell' = true
theorem Sim.refl (B : Nat → Prop) (G : Gh) : Sim B G G := ⟨fun _ _ => rfl, fun b _ cs T h => ⟨cs, h, rfl, fun j v h => .inl h⟩⟩
theorem Sim.ghe (h : Sim B G G') (hg : Ghe G0 G) (hB : ∀ b, B b → G0 b = none) : Ghe G0 G' := fun b o ho => by
  rw [h.off b (fun hb => by rw [hB b hb] at ho; cases ho)]
  exact hg b o ho
theorem Sim.sl_off (h : Sim B G G') {A : Option Addr} {n c sz : Nat} {cs : List Value} (hs : Sl G A n c sz cs) (hB : ∀ ad, A = some ad → ¬ B ad.block) : Sl G' A n c sz cs := by
  refine ⟨hs.len, hs.cap, hs.top, fun ad had j v hj => ?_, hs.nil, hs.ones⟩
  have h1 := hs.there ad had j v hj
  have hb : (ad.add j).block = ad.block := by unfold Addr.add; split <;> rfl
  unfold Gcell at h1 ⊢
  rw [h.off _ (by rw [hb]; exact hB ad had)]
  exact h1
theorem Sim.whl (h : Sim B G G') {A : Option Addr} {xs : List Value} (hW : Whl G A xs) (h1 : ∀ v ∈ xs, v.oneCell' = true) : ∃ ys, ys.length = xs.length ∧ Whl G' A ys ∧ ∀ v ∈ ys, v.oneCell' = true := by
  cases A with
  | none => exact ⟨xs, rfl, (fun ad had => by cases had), h1⟩
  | some ad =>
    obtain ⟨hsp, hof, cur, T, h3, h4⟩ := hW ad rfl
    rcases Classical.em (B ad.block) with hb | hb
    · obtain ⟨cs', h5, h6, h7⟩ := h.on _ hb cur T h3
      have hsz : xs.length ≤ cur.size := by
        have := congrArg List.length h4
        rw [List.length_take] at this
        simp at this; omega
      have hl : (cs'.toList.take xs.length).length = xs.length := by rw [List.length_take]; simp; omega
      refine ⟨cs'.toList.take xs.length, hl, fun a' ha' => ?_, fun v hv => ?_⟩
      · cases ha'
        exact ⟨hsp, hof, cs', T, h5, by rw [hl]⟩
      · obtain ⟨j, hj⟩ := List.getElem?_of_mem hv
        rw [List.getElem?_take] at hj
        split at hj
        case isFalse => cases hj
        rename_i hjl
        rcases h7 j v (by simpa using hj) with h8 | h8
        · refine h1 v (List.mem_of_getElem? (i := j) ?_)
          rw [← h4, List.getElem?_take, if_pos hjl]
          simpa using h8
        · exact h8
    · exact ⟨xs, rfl, (fun a' ha' => by cases ha'; exact ⟨hsp, hof, cur, T, by rw [h.off _ hb]; exact h3, h4⟩), h1⟩
/-- A slice whose block may have been written. -/
theorem Sim.sl (h : Sim B G G') {A : Option Addr} {n c sz : Nat} {xs : List Value} (hW : Whl G A xs) (hs : Sl G A n c sz xs) : ∃ ys, Whl G' A ys ∧ Sl G' A n c sz ys := by
  obtain ⟨ys, h1, h2, h3⟩ := h.whl hW hs.ones
  exact ⟨ys, h2, h2.sl (by rw [h1, hs.len]) hs.cap hs.top hs.nil h3⟩
/-- A store into such a slice. -/
theorem th_sim {a ad : Addr} {xs ys : List Value} {j : Nat} {u : Value} {fr : List SV} {Hs : List Ob} {K : St → Prop} (hS : Sim B G G') (hW0 : Whl G (some a) xs) (hW : Whl G' (some a) ys) (hB : B a.block) (hE : ∀ b, B b → E.G0 b = none) (hj : j < ys.length) (had : ad = a.add j) (hu : u.oneCell' = true)
    (hK : ∀ G2, Sim B G G2 → K ⟨fr, Hs, G2⟩) :
    ∃ (cs : Array Value) (T' : TypeId), G' ad.block = some (.cells cs T' (0, 0)) ∧ E.G0 ad.block = none ∧ ad.spot = none ∧ ad.off < cs.size ∧ u.oneCell' = true ∧ K ⟨fr, Hs, putG G' ad.block (.cells (cs.toList.set ad.off u).toArray T' (0, 0))⟩ := by
  obtain ⟨hsp, hof, cur, T, h3, h4⟩ := hW a rfl
  obtain ⟨_, _, cur0, T0, h30, _⟩ := hW0 a rfl
  obtain ⟨b, off, spot⟩ := a
  dsimp only at hsp hof h3 h30 hB
  subst hsp hof
  rw [add_off, Nat.zero_add] at had
  subst had
  have hsz : ys.length ≤ cur.size := by
    have := congrArg List.length h4
    rw [List.length_take] at this
    simp at this; omega
  refine ⟨cur, T, h3, hE _ hB, rfl, by dsimp only; omega, hu, hK _ ⟨fun k hk => ?_, fun k hk cs T2 h9 => ?_⟩⟩
  · unfold putG
    rw [if_neg (fun e => hk (by rw [e]; exact hB))]
    exact hS.off k hk
  · unfold putG
    by_cases hkb : k = b
    · subst hkb
      obtain ⟨cs', h5, h6, h7⟩ := hS.on _ hk cs T2 h9
      rw [h3] at h5
      simp only [Option.some.injEq, Obj.cells.injEq] at h5
      obtain ⟨rfl, rfl, _⟩ := h5
      refine ⟨(cur.toList.set j u).toArray, by rw [if_pos rfl], by simpa using h6, fun q v hq => ?_⟩
      simp only [List.getElem?_toArray, List.getElem?_set] at hq
      split at hq
      · split at hq
        · cases hq; exact .inr hu
        · cases hq
      · exact h7 q v (by simpa using hq)
    · rw [if_neg hkb]
      exact hS.on k hk cs T2 h9
theorem th_simx {A : Option Addr} {ad adf : Addr} {xs ys : List Value} {j0 fld : Nat} (u : Value) (hS : Sim B G G') (hW0 : Whl G A xs) (hW : Whl G' A ys) (hB : ∀ a, A = some a → B a.block) (hE : ∀ b, B b → E.G0 b = none) (hadr : ∃ a0, A = some a0 ∧ ad = a0.add j0) (hadf : adf = ad.add fld) (hj : j0 + fld < ys.length) (hu : u.oneCell' = true) :
    ∃ (cs : Array Value) (T' : TypeId), G' adf.block = some (.cells cs T' (0, 0)) ∧ E.G0 adf.block = none ∧ adf.spot = none ∧ adf.off < cs.size ∧ Sim B G (putG G' adf.block (.cells (cs.toList.set adf.off u).toArray T' (0, 0))) := by
  obtain ⟨a0, rfl, rfl⟩ := hadr
  obtain ⟨cs, T', h1, h2, h3, h4, _, h5⟩ := th_sim (ad := adf) (fr := []) (Hs := []) (K := fun s => Sim B G s.G) hS hW0 hW (hB a0 rfl) hE hj (by rw [hadf, Go.Deep.add_add]) hu (fun G' h6 => h6)
  exact ⟨cs, T', h1, h2, h3, h4, h5⟩
end
end Go.SX
