/- A symbolic walk: code, loops, a whole function, a call of a function with a contract. -/
import Derived.Test.YtgdfhpknhcjipaaSX10
namespace Go.SX
set_option linter.unusedVariables false
set_option linter.unusedSimpArgs false
section
variable {E : Env} {ρ : List Value} {H : List Ob} {G : Gh} {w : World}

inductive Ex where
  | normal
  | ret
  | exit (id : Nat)
def Ex.up : Ex → Exit
  | .normal => .normal
  | .ret => .ret
  | .exit id => .exit id

abbrev Kont := Ex → St → Prop
/-- What follows. -/
structure KOK (E : Env) (K : Kont) (Q : Exit → Act → World → Prop) : Prop where
  go : ∀ e s, K e s → ∀ ρ a w, Ag E ρ s.H s.G w → Rvs ρ s.fr a.tmps.toList → a.defers = [] → Q e.up a w
  pan : ∀ c a d v w, Q (.panic c) (Act.put a d v) w → Q (.panic c) a w

/-- A loop that the walk has come to. -/
structure LoopVC (P : Program) (E : Env) (body : Code) (s : St) (K : Kont) : Prop where
  out : ∀ Q, KOK E K Q → ∀ ρ a w, Ag E ρ s.H s.G w → Rvs ρ s.fr a.tmps.toList → a.defers = [] → (Code.loop body).wp P Q a w
structure BadC (c : Code) : Prop where
  no : False
structure NoPlan (id : Nat) : Prop where
  no : False
/-- The plan of a region whose order is drawn. -/
structure DrawVC (ops : Array Oper) (pl : Plan2) (A : Prop) : Prop where
  ok : drawOk ops pl = true
  nxt : A
theorem drw {ops : Array Oper} {pl : Plan2} {A : Prop} (h : drawOk ops pl = true) (ha : A) : DrawVC ops pl A := ⟨h, ha⟩

def planOf : List (Nat × Plan2) → Nat → Option Plan2
  | [], _ => none
  | (k, pl) :: l, id => match Nat.beq k id with
    | true => some pl
    | false => planOf l id

def litAt (c : Operand) (b : Bool) (s : St) (k : St → Prop) : Prop :=
  match c with
  | .tmp t => s.un fun fr H G => forceSp (fr.set t (.lit b)) fun fr' => k ⟨fr', H, G⟩
  | _ => k s

def sxC (P : Program) (E : Env) (Pl : List (Nat × Plan2)) : Code → Kont → St → Prop
  | .skip, K, s => K .normal s
  | .label _, K, s => K .normal s
  | .ret, K, s => K .ret s
  | .exit id, K, s => K (.exit id) s
  | .region id ops draw, K, s => match draw with
    | false => sxOps P E ops.toList ops.toList (K .normal) s
    | true => match planOf Pl id with
      | some pl => DrawVC ops pl (sxPl2 P E ops.toList pl [] (K .normal) s)
      | none => NoPlan id
  | .seq a b, K, s => sxC P E Pl a (fun e s => match e with
      | .normal => sxC P E Pl b K s
      | .ret => K .ret s
      | .exit i => K (.exit i) s) s
  | .cond c x y, K, s => match evr s.fr c with
    | .lit true => sxC P E Pl x K s
    | .lit false => sxC P E Pl y K s
    | .v (.bool b) => br b (litAt c true s (sxC P E Pl x K)) (litAt c false s (sxC P E Pl y K))
    | _ => BadC (.cond c x y)
  | .block id body, K, s => sxC P E Pl body (fun e s => match e with
      | .normal => K .normal s
      | .ret => K .ret s
      | .exit j => match Nat.beq j id with
        | true => K .normal s
        | false => K (.exit j) s) s
  | .loop body, K, s => LoopVC P E body s K
  | .rangeFunc f a b c, K, s => BadC (.rangeFunc f a b c)
  | .scope c, K, s => BadC (.scope c)
  | .goto l, K, s => BadC (.goto l)
  | .refuse m, K, s => BadC (.refuse m)

theorem lit_ok {c : Operand} {b : Bool} {s : St} {k : St → Prop} (h : litAt c b s k) {a : Act} (hF : Rvs ρ s.fr a.tmps.toList) (hc : a.eval c = .bool b) :
    ∃ s', k s' ∧ s'.H = s.H ∧ s'.G = s.G ∧ Rvs ρ s'.fr a.tmps.toList := by
  unfold litAt at h
  cases c with
  | tmp t =>
    simp only [St.un_eq, forceSp_eq] at h
    by_cases ht : t < a.tmps.size
    · refine ⟨_, h, rfl, rfl, set_lit hF ?_⟩
      simp only [Act.eval, Array.getD_eq_getD_getElem?, Array.getElem?_eq_getElem ht, Option.getD_some] at hc
      rw [Array.getElem?_toList, Array.getElem?_eq_getElem ht, hc]
    · simp [Act.eval, Array.getD_eq_getD_getElem?, Array.getElem?_eq_none (Nat.not_lt.1 ht), undef] at hc
  | const v => exact ⟨s, h, rfl, rfl, hF⟩
  | global g => exact ⟨s, h, rfl, rfl, hF⟩
  | func f => exact ⟨s, h, rfl, rfl, hF⟩

theorem sxC_ok {P : Program} (hm : P.follows .mixedOrders = true) (Pl : List (Nat × Plan2)) : ∀ (c : Code) {K : Kont} {Q : Exit → Act → World → Prop} {s : St} {a : Act} {w : World} {ρ : List Value}, KOK E K Q →
    sxC P E Pl c K s → Ag E ρ s.H s.G w → Rvs ρ s.fr a.tmps.toList → a.defers = [] → c.wp P Q a w
  | .skip, K, Q, s, a, w, ρ, hK, hS, hA, hF, hd => wp_skip (hK.go .normal s hS ρ a w hA hF hd)
  | .label _, K, Q, s, a, w, ρ, hK, hS, hA, hF, hd => wp_label (hK.go .normal s hS ρ a w hA hF hd)
  | .ret, K, Q, s, a, w, ρ, hK, hS, hA, hF, hd => wp_ret (hK.go .ret s hS ρ a w hA hF hd)
  | .exit id, K, Q, s, a, w, ρ, hK, hS, hA, hF, hd => wp_exit (hK.go (.exit id) s hS ρ a w hA hF hd)
  | .region id ops draw, K, Q, s, a, w, ρ, hK, hS, hA, hF, hd => by
    simp only [sxC] at hS
    have hn : ∀ s', K .normal s' → ∀ ρ' a' w', Ag E ρ' s'.H s'.G w' → Rvs ρ' s'.fr a'.tmps.toList → a'.defers = [] → Q .normal a' w' :=
      fun s' hs ρ' a' w' => hK.go .normal s' hs ρ' a' w'
    cases draw with
    | false =>
      refine wp_region_list ?_
      have := sxOps_ok (P := P) (all := ops.toList) (Q := Q) ops.toList hn hS hA hF hd
      simpa using this
    | true =>
      simp only at hS
      split at hS
      · rename_i pl hpl
        exact region_draw hm hS.ok (fun c a d v w => hK.pan c a d v w) hn hS.nxt hA hF hd
      · exact hS.no.elim
  | .seq x y, K, Q, s, a, w, ρ, hK, hS, hA, hF, hd => by
    simp only [sxC] at hS
    refine wp_seq (sxC_ok hm Pl x ⟨?_, ?_⟩ hS hA hF hd)
    · intro e s' hs ρ' a' w' hA' hF' hd'
      cases e with
      | normal => exact sxC_ok hm Pl y hK hs hA' hF' hd'
      | ret => exact hK.go .ret s' hs ρ' a' w' hA' hF' hd'
      | exit i => exact hK.go (.exit i) s' hs ρ' a' w' hA' hF' hd'
    · intro c a d v w h; exact hK.pan c a d v w h
  | .cond c x y, K, Q, s, a, w, ρ, hK, hS, hA, hF, hd => by
    simp only [sxC] at hS
    have hc := evr_ok hF c
    split at hS
    · rename_i he; rw [he] at hc; simp only [Rv] at hc; exact wp_cond_true hc (sxC_ok hm Pl x hK hS hA hF hd)
    · rename_i he; rw [he] at hc; simp only [Rv] at hc; exact wp_cond_false hc (sxC_ok hm Pl y hK hS hA hF hd)
    · rename_i b he
      rw [he] at hc
      simp only [Rv] at hc
      have hb := br_ok hS
      cases b
      · simp only [Bool.false_eq_true, if_false] at hb
        obtain ⟨s', hk, e1, e2, hF'⟩ := lit_ok hb hF hc
        exact wp_cond_false hc (sxC_ok hm Pl y hK hk (by rw [e1, e2]; exact hA) hF' hd)
      · simp only [if_true] at hb
        obtain ⟨s', hk, e1, e2, hF'⟩ := lit_ok hb hF hc
        exact wp_cond_true hc (sxC_ok hm Pl x hK hk (by rw [e1, e2]; exact hA) hF' hd)
    · exact hS.no.elim
  | .block id body, K, Q, s, a, w, ρ, hK, hS, hA, hF, hd => by
    simp only [sxC] at hS
    refine wp_block (sxC_ok hm Pl body ⟨?_, ?_⟩ hS hA hF hd)
    · intro e s' hs ρ' a' w' hA' hF' hd'
      cases e with
      | normal => exact hK.go .normal s' hs ρ' a' w' hA' hF' hd'
      | ret => exact hK.go .ret s' hs ρ' a' w' hA' hF' hd'
      | exit j =>
        simp only [Ex.up, Exit.inBlock]
        simp only at hs
        split at hs
        · rename_i hj
          rw [if_pos (Nat.eq_of_beq_eq_true hj)]
          exact hK.go .normal s' hs ρ' a' w' hA' hF' hd'
        · rename_i hj
          rw [if_neg (fun e => by subst e; simp at hj)]
          exact hK.go (.exit j) s' hs ρ' a' w' hA' hF' hd'
    · intro c a d v w h; exact hK.pan c a d v w h
  | .loop body, K, Q, s, a, w, ρ, hK, hS, hA, hF, hd => hS.out Q hK ρ a w hA hF hd
  | .rangeFunc _ _ _ _, K, Q, s, a, w, ρ, hK, hS, hA, hF, hd => hS.no.elim
  | .scope _, K, Q, s, a, w, ρ, hK, hS, hA, hF, hd => hS.no.elim
  | .goto _, K, Q, s, a, w, ρ, hK, hS, hA, hF, hd => hS.no.elim
  | .refuse _, K, Q, s, a, w, ρ, hK, hS, hA, hF, hd => hS.no.elim

/-! ### loops -/
theorem wp_loopx {P : Program} {α : Type} {c : Code} {Q : Exit → Act → World → Prop} (I : α → Act → World → Prop) (μ : α → Nat)
    (round : ∀ x a w, I x a w → c.wp P (Exit.then (fun a' w' => ∃ y, I y a' w' ∧ μ y < μ x) Q) a w) {x0 : α} {a : Act} {w : World} (h0 : I x0 a w) : (Code.loop c).wp P Q a w := by
  intro b k cs
  have key : ∀ n x a w, μ x = n → I x a w →
      ∃ e a' w', Q e a' w' ∧ Arrives P (lone (b.at a (.code c :: .inLoop c :: k)) cs w) b k cs e a' w' := by
    intro n
    induction n using Nat.strongRecOn with
    | _ n ih =>
      intro x a w hn hI
      obtain ⟨e, a₁, w₁, hq, harr⟩ := round x a w hI b (.inLoop c :: k) cs
      cases e with
      | normal =>
        obtain ⟨y, hI₁, hlt⟩ := hq
        obtain ⟨e₂, a₂, w₂, hq₂, harr₂⟩ := ih (μ y) (hn ▸ hlt) y a₁ w₁ rfl hI₁
        exact ⟨e₂, a₂, w₂, hq₂, .of_steps (Steps.trans harr (.one step_inLoop)) harr₂⟩
      | exit id => exact ⟨_, a₁, w₁, hq, .pass (x := .inLoop c) rfl (fun _ _ => .inl (by simp)) harr⟩
      | goto l => exact ⟨_, a₁, w₁, hq, .pass (x := .inLoop c) rfl (fun _ _ => .inl (by simp)) harr⟩
      | ret => exact ⟨_, a₁, w₁, hq, .pass (x := .inLoop c) rfl (fun _ _ => .inl (by simp)) harr⟩
      | panic ch => exact ⟨_, a₁, w₁, hq, .pass (x := .inLoop c) rfl (fun _ _ => .inl (by simp)) harr⟩
      | outgrown => exact ⟨_, a₁, w₁, hq, .pass (x := .inLoop c) rfl (fun _ _ => .inl (by simp)) harr⟩
  obtain ⟨e, a', w', hq, harr⟩ := key _ x0 a w rfl h0
  exact ⟨e, a', w', hq, .of_steps (.one step_loop) harr⟩

/-- Less is known. -/
def wk : List SV → List SV → Prop
  | [], [] => True
  | a :: l, b :: l' => (b = .dead ∨ a = b) ∧ wk l l'
  | _, _ => False
theorem wk_ok : ∀ {xs ys : List SV} {vs : List Value}, wk xs ys → Rvs ρ xs vs → Rvs ρ ys vs
  | [], [], vs, _, h => h
  | a :: l, b :: l', vs, hw, h => by
    simp only [Rvs] at h ⊢
    obtain ⟨y, yt, rfl, h1, h2⟩ := h
    refine ⟨y, yt, rfl, ?_, wk_ok hw.2 h2⟩
    rcases hw.1 with rfl | rfl
    · simp [Rv]
    · exact h1
  | [], _ :: _, _, hw, _ => hw.elim
  | _ :: _, [], _, hw, _ => hw.elim

theorem loop_rule {P : Program} (hm : P.follows .mixedOrders = true) (Pl : List (Nat × Plan2)) {α : Type} {body : Code} {K : Kont} {s : St} (Inv : α → St → Prop) (μ : α → Nat)
    (h0 : ∃ x s1, Inv x s1 ∧ s1.H = s.H ∧ s1.G = s.G ∧ wk s.fr s1.fr)
    (step : ∀ x s, Inv x s → sxC P E Pl body (fun e s' => match e with
      | .normal => ∃ y s1, Inv y s1 ∧ μ y < μ x ∧ s1.H = s'.H ∧ s1.G = s'.G ∧ wk s'.fr s1.fr
      | .ret => K .ret s'
      | .exit i => K (.exit i) s') s) : LoopVC P E body s K := by
  refine ⟨fun Q hK ρ a w hA hF hd => ?_⟩
  obtain ⟨x0, s1, hI, e1, e2, hw⟩ := h0
  refine wp_loopx (fun x a w => ∃ s ρ, Inv x s ∧ Ag E ρ s.H s.G w ∧ Rvs ρ s.fr a.tmps.toList ∧ a.defers = []) μ ?_ (x0 := x0) ⟨s1, ρ, hI, by rw [e1, e2]; exact hA, wk_ok hw hF, hd⟩
  rintro x a w ⟨s, ρ, hI, hA, hF, hd⟩
  refine sxC_ok hm Pl body ⟨?_, ?_⟩ (step x s hI) hA hF hd
  · intro e s' hs ρ' a' w' hA' hF' hd'
    cases e with
    | normal =>
      obtain ⟨y, s1, hy, hlt, e1, e2, hw⟩ := hs
      exact ⟨y, ⟨s1, ρ', hy, by rw [e1, e2]; exact hA', wk_ok hw hF', hd'⟩, hlt⟩
    | ret => exact hK.go .ret s' hs ρ' a' w' hA' hF' hd'
    | exit i => exact hK.go (.exit i) s' hs ρ' a' w' hA' hF' hd'
  · intro c a d v w h; exact hK.pan c a d v w h

/-! ### a function -/
def sxRes (P : Program) : List ResultVar → St → (List SV → Prop) → Prop
  | [], s, k => k []
  | .tmp t :: l, s, k => forceSV (ev s.fr (.tmp t)) fun v => sxRes P l s fun vs => k (v :: vs)
  | .cell a T :: l, s, k => ldOp P ⟨none, .load T (.tmp a), 0, "", #[], none⟩ T (.tmp a) s fun v => forceSV v fun v => sxRes P l s fun vs => k (v :: vs)

theorem sxRes_ok {P : Program} {a : Act} : ∀ (l : List ResultVar) {s : St} {k : List SV → Prop}, sxRes P l s k → Ag E ρ s.H s.G w → Rvs ρ s.fr a.tmps.toList →
    ∃ svs vs, k svs ∧ Rvs ρ svs vs ∧ (l.mapM (fun r => match r with | .tmp t => pure (a.tmps.getD t undef) | .cell x t => do loadVar t (← asAddr (a.tmps.getD x undef))) : Sem (List Value)).run P w = .ok vs w
  | [], s, k, h, hA, hF => ⟨[], [], h, by simp [Rvs], by simp⟩
  | .tmp t :: l, s, k, h, hA, hF => by
    simp only [sxRes, forceSV_eq] at h
    obtain ⟨svs, vs, hk, hr, hrun⟩ := sxRes_ok l h hA hF
    refine ⟨_, a.eval (.tmp t) :: vs, hk, ?_, ?_⟩
    · simp only [Rvs]; exact ⟨_, _, rfl, ev_ok hF (.tmp t), hr⟩
    · simp only [List.mapM_cons, Sem.run_bind, Sem.run_pure, Result.andThen_ok, hrun]; rfl
  | .cell x T :: l, s, k, h, hA, hF => by
    simp only [sxRes] at h
    obtain ⟨v, sv, hk, hrv, hrun⟩ := ld_ok (P := P) (E := E) (o := ⟨none, .load T (.tmp x), 0, "", #[], none⟩) rfl s _ a ρ w h hA hF
    rw [forceSV_eq] at hk
    obtain ⟨svs, vs, hk', hr, hrun'⟩ := sxRes_ok l hk hA hF
    have h1 := hrun w (Agr.refl _ _ _ _)
    refine ⟨_, v :: vs, hk', by simp only [Rvs]; exact ⟨_, _, rfl, hrv, hr⟩, ?_⟩
    have h2 : (do loadVar T (← asAddr (a.tmps.getD x undef)) : Sem Value).run P w = .ok v w := by
      simp only [execOp, Act.eval] at h1
      cases hx : a.tmps.getD x undef <;> simp only [hx, Instr.loadAt, Instr.sureAddr] at h1 <;> try (simp at h1; done)
      rename_i ad
      cases ad with
      | none => simp at h1
      | some ad =>
        simp only [Sem.run_bind, Sem.run_pure, Result.andThen_ok] at h1
        simp only [asAddr, Sem.run_bind, Sem.run_pure, Result.andThen_ok]
        cases hq : (loadVar T ad).run P w with
        | ok v' w' => rw [hq] at h1; simp at h1; obtain ⟨h1, h2⟩ := h1; rw [h1, h2]
        | halt q w' => rw [hq] at h1; simp at h1
    simp only [List.mapM_cons, Sem.run_bind, h2, Result.andThen_ok, hrun', Sem.run_pure]

def Kfin (P : Program) (rs : List ResultVar) (Post : SV → St → Prop) : Kont
  | .normal, s => sxRes P rs s fun vs => match vs with
    | [x] => Post x s
    | [] => Post (.tup []) s
    | x :: y :: l => Post (.tup (x :: y :: l)) s
  | .ret, s => sxRes P rs s fun vs => match vs with
    | [x] => Post x s
    | [] => Post (.tup []) s
    | x :: y :: l => Post (.tup (x :: y :: l)) s
  | .exit i, s => BadC (.exit i)

theorem sx_calls {P : Program} (hm : P.follows .mixedOrders = true) (Pl : List (Nat × Plan2)) {f : FuncId} {fn : Func} {body : Code} (hf : P.funcs[f]? = some fn) (hb : fn.body = some body)
    {args : List SV} {ys : List Value} {Post : SV → St → Prop} (hA : Ag E ρ H G w) (hargs : Rvs ρ args ys)
    (hS : forceSp (args ++ List.replicate (fn.ntmps - args.length) (.v undef)) fun fr => sxC P E Pl body (Kfin P fn.results.toList Post) ⟨fr, H, G⟩) :
    Calls P f ys.toArray w fun e w' => ∃ v sv s' ρ', e = .returned v ∧ Post sv s' ∧ Ag E ρ' s'.H s'.G w' ∧ Rv ρ' sv v := by
  rw [forceSp_eq] at hS
  refine calls_of_wp hf hb ?_
  refine sxC_ok hm Pl body (K := Kfin P fn.results.toList Post) ⟨?_, ?_⟩ hS hA ?_ rfl
  · have key : ∀ s', (sxRes P fn.results.toList s' fun vs => match vs with
        | [x] => Post x s'
        | [] => Post (.tup []) s'
        | x :: y :: l => Post (.tup (x :: y :: l)) s') → ∀ ρ' (a' : Act) w', Ag E ρ' s'.H s'.G w' → Rvs ρ' s'.fr a'.tmps.toList → a'.defers = [] →
        a'.defers = [] ∧ ∃ v, (results fn a'.tmps).run P w' = .ok v w' ∧ ∃ v1 sv s' ρ', Ending.returned v = .returned v1 ∧ Post sv s' ∧ Ag E ρ' s'.H s'.G w' ∧ Rv ρ' sv v1 := by
      intro s' hs ρ' a' w' hA' hF' hd'
      obtain ⟨svs, vs, hk, hr, hrun⟩ := sxRes_ok fn.results.toList hs hA' hF'
      have hres : (results fn a'.tmps).run P w' = .ok (if h : vs.toArray.size = 1 then vs.toArray[0] else .tuple vs.toArray) w' := by
        unfold results
        rw [Array.mapM_eq_mapM_toList]
        simp only [Sem.run_bind, Sem.run_map]
        refine Eq.trans (congrArg (fun r : Result (List Value) => (r.andThen fun a w' => Result.ok a.toArray w').andThen fun (a : Array Value) w' => Sem.run P (pure (if h : a.size = 1 then a[0] else Value.tuple a)) w') hrun) ?_
        rfl
      refine ⟨hd', _, hres, ?_⟩
      match svs, hk, hr with
      | [], hk, hr =>
        simp only [Rvs] at hr; subst hr
        exact ⟨_, _, s', ρ', rfl, hk, hA', by simp [Rv, Rvs]⟩
      | [x], hk, hr =>
        simp only [Rvs] at hr
        obtain ⟨y, yt, rfl, h1, rfl⟩ := hr
        exact ⟨_, _, s', ρ', rfl, hk, hA', by simpa using h1⟩
      | x :: y :: l, hk, hr =>
        have hl := hr.length
        refine ⟨_, _, s', ρ', rfl, hk, hA', ?_⟩
        rw [dif_neg (by simp at hl ⊢; omega)]
        simp only [Rv]
        exact ⟨_, rfl, by simpa using hr⟩
    intro e s' hs ρ' a' w' hA' hF' hd'
    cases e with
    | normal => exact key s' hs ρ' a' w' hA' hF' hd'
    | ret => exact key s' hs ρ' a' w' hA' hF' hd'
    | exit i => exact hs.no.elim
  · rintro c a d v w ⟨h1, h2⟩
    refine ⟨by cases d <;> exact h1, h2⟩
  · have hl := hargs.length
    simp only [Array.toList_append, Array.toList_replicate, List.size_toArray, hl]
    refine hargs.append ?_
    have : ∀ n, Rvs ρ (List.replicate n (.v undef)) (List.replicate n undef) := by
      intro n
      induction n with
      | zero => simp [Rvs]
      | succ n ih => simp only [List.replicate_succ, Rvs]; exact ⟨_, _, rfl, by simp [Rv], ih⟩
    exact this _
end
end Go.SX
