/- A symbolic walk: calls; one operation of either kind; a guard; operations in the order of the text. -/
import Derived.Test.YtgdfhpknhcjipaaSX7
import Derived.Laws.StructEq
namespace Go.SX
set_option linter.unusedVariables false
set_option linter.unusedSimpArgs false
section
variable {E : Env} {ρ : List Value} {H : List Ob} {G : Gh} {w : World}

/-- What a call must come to: the objects that it changes, its result and the state behind it. -/
structure CallVC (P : Program) (E : Env) (f : FuncId) (args : List SV) (s : St) (K : List Nat → SV → St → Prop) : Prop where
  enters : ∀ (args : Array Value) (w : World), (callFunc f args).run P w = .ok (.enter f args) w
  calls : ∀ ρ w ys, Ag E ρ s.H s.G w → Rvs ρ args ys → Calls P f ys.toArray w fun e w' => ∃ v T sv s' ρ', e = .returned v ∧ K T sv s' ∧ Ag E ρ' s'.H s'.G w' ∧ Rv ρ' sv v ∧
    (∀ zs, Rvs ρ s.fr zs → Rvs ρ' s'.fr zs) ∧ Fp ρ ρ' s.G s'.G T w w'

/-! ### structs of integers that are compared -/
/-- The cells at the same places, with the same kinds. -/
def zipI : List SV → List SV → Option (List Int × List Int)
  | [], [] => some ([], [])
  | .v (.int k a) :: xs, .v (.int k' b) :: ys => match sameKind k k', zipI xs ys with
    | true, some (l, m) => some (a :: l, b :: m)
    | _, _ => none
  | _, _ => none
def flatS : SV → Option (List SV)
  | .agg xs => some xs
  | .v (.agg ys) => some (vs ys.toList)
  | _ => none
def intFs (P : Program) : List Field → Nat → Bool
  | [], _ => true
  | f :: fs, o => !(f.name == "_") && Nat.beq f.offset o && (match P.underlying f.type with | some (.int _) => true | _ => false) && intFs P fs (o + 1)
def seChk (P : Program) (t : TypeId) (n : Nat) : Bool :=
  match P.underlying t with
  | some (.struct fs) => !P.stoodInHeld t && !P.eqGuardType P.depth t && Nat.beq fs.size n && intFs P fs.toList 0
  | _ => false
/-- Something that is to be computed once. -/
structure ChkVC (b : Bool) (A : Prop) : Prop where
  ok : b = true
  nxt : A
theorem chk {b : Bool} {A : Prop} (h : b = true) (ha : A) : ChkVC b A := ⟨h, ha⟩
def seOp (P : Program) (o : Oper) (q : Bool) (t : TypeId) (x y : Operand) (s : St) (K : SV → Prop) : Prop :=
  match flatS (ev s.fr x), flatS (ev s.fr y) with
  | some xs, some ys => match zipI xs ys with
    | some (l, m) => ChkVC (seChk P t l.length) (forceSp l fun l' => forceSp m fun m' => match q with
      | true => K (.v (.bool (decide (l' = m'))))
      | false => K (.v (.bool !(decide (l' = m')))))
    | none => Bad o
  | _, _ => Bad o
theorem flatS_ok {x : SV} {xs : List SV} {v : Value} (h : flatS x = some xs) (hv : Rv ρ x v) : ∃ ys, v = .agg ys ∧ Rvs ρ xs ys.toList := by
  unfold flatS at h
  split at h <;> simp at h <;> subst h
  · simp only [Rv] at hv; exact hv
  · simp only [Rv] at hv; subst hv; exact ⟨_, rfl, Rvs.of_vs _⟩
theorem part_int {P : Program} {t : TypeId} {k : IntKind} (hu : P.underlying t = some (.int k)) (cs : Array Value) (off : Nat) (v : Value) (h : cs[off]? = some v) (w : World) : (part t cs off).run P w = .ok v w :=
  (run_part cs off w).2 (by simp [tyAgg, hu]) v h
theorem run_eqFs {P : Program} (d : Nat) (cs ds : Array Value) (w : World) : ∀ (fs : List Field) (o : Nat) (xs ys : List SV) {l m : List Int}, intFs P fs o = true → fs.length = l.length → zipI xs ys = some (l, m) →
    Rvs ρ xs (cs.toList.drop o) → Rvs ρ ys (ds.toList.drop o) → (Op.eqFields (d + 1) cs ds fs).run P w = .ok (decide (l = m)) w
  | [], o, xs, ys, l, m, _, hl, hz, _, _ => by
    cases l with
    | nil =>
      have : m = [] := by
        unfold zipI at hz
        split at hz
        · simp at hz; exact hz
        · split at hz <;> simp at hz
        · simp at hz
      subst this; simp [Op.eqFields]
    | cons a l => simp at hl
  | f :: fs, o, xs, ys, l, m, hf, hl, hz, hx, hy => by
    unfold zipI at hz
    split at hz
    · simp at hz; obtain ⟨rfl, rfl⟩ := hz; simp at hl
    · rename_i k a xs k' b ys
      split at hz <;> simp at hz
      rename_i l0 m0 hk hz0
      obtain ⟨rfl, rfl⟩ := hz
      have := sameKind_eq hk
      subst this
      simp only [intFs, Bool.and_eq_true, Bool.not_eq_true'] at hf
      obtain ⟨⟨⟨hn, ho⟩, hu⟩, hfs⟩ := hf
      have ho := Nat.eq_of_beq_eq_true ho
      subst ho
      obtain ⟨k', hu⟩ : ∃ k', P.underlying f.type = some (.int k') := by
        split at hu
        · rename_i k' h; exact ⟨k', h⟩
        · simp at hu
      simp only [Rvs, Rv] at hx hy
      obtain ⟨y1, t1, he1, rfl, hx⟩ := hx
      obtain ⟨y2, t2, he2, rfl, hy⟩ := hy
      have g : ∀ {L : List Value} {n : Nat} {v : Value} {t : List Value}, L.drop n = v :: t → L[n]? = some v ∧ L.drop (n + 1) = t := by
        intro L n v t h
        refine ⟨?_, ?_⟩
        · have := congrArg (fun l : List Value => l[0]?) h
          simpa using this
        · have := congrArg (List.drop 1) h
          simpa using this
      obtain ⟨g1, g1'⟩ := g he1
      obtain ⟨g2, g2'⟩ := g he2
      have hn' : f.name ≠ "_" := by simpa using hn
      have p1 := part_int hu cs f.offset _ (by simpa using g1) w
      have p2 := part_int hu ds f.offset _ (by simpa using g2) w
      have he := run_equalIn_int (P := P) w d f.type k k' a b hu
      have ih := run_eqFs d cs ds w fs (f.offset + 1) xs ys hfs (by simpa using hl) hz0 (by rw [g1']; exact hx) (by rw [g2']; exact hy)
      rw [Op.eqFields]
      simp only [if_pos hn', Sem.run_bind, p1, p2, he, Result.andThen_ok]
      by_cases hab : a = b
      · subst hab
        simp only [beq_self_eq_true, Bool.not_true, Bool.false_eq_true, if_false, ih]
        simp
      · have : (a == b) = false := by simpa using hab
        simp [this, hab]
    · simp at hz
theorem run_eqGuard_struct {P : Program} (op : BinOp) (q : Bool) (hop : isEq op = some q) (t : TypeId) (x y : Operand) (xs : Array Value) (b : Value) (hg : P.eqGuardType P.depth t = false) (w : World) : (eqGuard op t x y (.agg xs) b).run P w = .ok () w := by
  unfold eqGuard
  cases op <;> simp [isEq] at hop <;> cases b <;> simp [hg, run_program]
theorem se_ok {P : Program} {o : Oper} {op : BinOp} {q : Bool} {t t' : TypeId} {x y : Operand} (ho : o.op = .binOp op t x y t') (hop : isEq op = some q) (s : St) : Qu P E o s (seOp P o q t x y s) := by
  intro K a ρ w hS hA hF
  have hx := ev_ok hF x
  have hy := ev_ok hF y
  unfold seOp at hS
  split at hS
  case h_2 => exact hS.no.elim
  rename_i xs ys h1 h2
  obtain ⟨cs, hc, hr1⟩ := flatS_ok h1 hx
  obtain ⟨ds, hd, hr2⟩ := flatS_ok h2 hy
  split at hS
  case h_2 => exact hS.no.elim
  rename_i l m hz
  obtain ⟨hchk, hS⟩ := hS
  rw [forceSp_eq, forceSp_eq] at hS
  unfold seChk at hchk
  split at hchk
  case h_2 => simp at hchk
  rename_i fs hu
  simp only [Bool.and_eq_true, Bool.not_eq_true'] at hchk
  obtain ⟨⟨⟨hst, hgd⟩, hsz⟩, hfs⟩ := hchk
  have hsz := Nat.eq_of_beq_eq_true hsz
  have hff : P.fieldsOf t = fs := by simp [Program.fieldsOf, hu]
  have heq : ∀ w, (Op.equal t (.agg cs) (.agg ds)).run P w = .ok (decide (l = m)) w := by
    intro w
    show (Op.equalIn (9999 + 1) t (.agg cs) (.agg ds)).run P w = _
    rw [run_equalIn_struct w 9999 t cs ds (by rw [hff]; exact hu) hst, hff]
    exact run_eqFs 9998 cs ds w fs.toList 0 xs ys hfs (by simpa using hsz) hz (by simpa using hr1) (by simpa using hr2)
  have hb := fun w => binOp_eql (P := P) (w := w) (t := t) (vx := .agg cs) (vy := .agg ds) rfl (heq w)
  have hguard := fun w => run_eqGuard_struct op q hop t x y cs (.agg ds) hgd w
  cases q with
  | true =>
    cases op <;> simp [isEq] at hop
    exact ⟨.bool (decide (l = m)), _, hS, by simp only [Rv], fun w' _ => by simp [execOp, ho, hc, hd, hguard, (hb w').1]⟩
  | false =>
    cases op <;> simp [isEq] at hop
    exact ⟨.bool !(decide (l = m)), _, hS, by simp only [Rv], fun w' _ => by simp [execOp, ho, hc, hd, hguard, (hb w').2]⟩

def quOp (P : Program) (o : Oper) (s : St) (K : SV → Prop) : Prop :=
  match puOp P o s with
  | some sv => forceSV sv K
  | none => match o.op with
    | .load T x => ldOp P o T x s fun v => forceSV v K
    | .pick c a b => pkOp o c a b s K
    | .binOp op t x y _ => match isEq op with
      | some q => seOp P o q t x y s K
      | none => dvOp o op x y s K
    | .slice t x lo hi mx => slOp P o t x lo hi mx s K
    | .indexAddr t x i => ixOp P o t x i s K
    | .index t x i => isOp P o t x i s K
    | .build t parts => bdOp P o t parts s K
    | .call { callee := .builtin .min, args, .. } => match args.toList with
      | [x, y] => mmOp o false x y s K
      | _ => Bad o
    | .call { callee := .builtin .max, args, .. } => match args.toList with
      | [x, y] => mmOp o true x y s K
      | _ => Bad o
    | _ => Bad o

theorem two {α : Type} {xs : Array α} {x y : α} (h : xs.toList = [x, y]) : xs = #[x, y] := by rw [← Array.toArray_toList (xs := xs), h]

theorem qu_ok {P : Program} {o : Oper} {s : St} : Qu P E o s (quOp P o s) := by
  intro K a ρ w hS hA hF
  unfold quOp at hS
  split at hS
  · rename_i sv hp
    rw [forceSV_eq] at hS
    exact pu_ok hp K a ρ w hS hA hF
  · split at hS
    · rename_i T x ho
      obtain ⟨v, sv, hk, hr⟩ := ld_ok ho s (fun v => forceSV v K) a ρ w hS hA hF
      rw [forceSV_eq] at hk
      exact ⟨v, sv, hk, hr⟩
    · rename_i ho; exact pk_ok ho s K a ρ w hS hA hF
    · rename_i ho
      split at hS
      · rename_i hq; exact se_ok ho hq s K a ρ w hS hA hF
      · exact dv_ok ho s K a ρ w hS hA hF
    · rename_i ho; exact sl_ok ho s K a ρ w hS hA hF
    · rename_i ho; exact ix_ok ho s K a ρ w hS hA hF
    · rename_i ho; exact is_ok ho s K a ρ w hS hA hF
    · rename_i ho; exact bd_ok ho s K a ρ w hS hA hF
    · rename_i args ts ho
      split at hS
      · rename_i x y hargs
        rw [two hargs] at ho
        exact min_ok ho s K a ρ w hS hA hF
      · exact hS.no.elim
    · rename_i args ts ho
      split at hS
      · rename_i x y hargs
        rw [two hargs] at ho
        exact max_ok ho s K a ρ w hS hA hF
      · exact hS.no.elim
    · exact hS.no.elim

def isEff : Op → Bool
  | .store _ _ _ => true
  | .alloc _ => true
  | .box _ _ => true
  | .buildSlice _ _ _ => true
  | .makeSlice _ _ _ => true
  | .call { callee := .builtin .append, .. } => true
  | .call { callee := .value _, .. } => true
  | _ => false

def effOp (P : Program) (E : Env) (o : Oper) (s : St) (K : List Nat → SV → St → Prop) : Prop :=
  match o.op with
  | .store T x v => stOp P o T x v s (K (tcOf s o))
  | .alloc T => alOp P o T s (K (tcOf s o))
  | .box T x => bxOp o T x s (K (tcOf s o))
  | .buildSlice t n parts => bsOp P o t n parts s (K (tcOf s o))
  | .makeSlice t x y => mkOp P o t x y s (K (tcOf s o))
  | .call { callee := .builtin .append, args, argTypes } => match args.toList, argTypes.toList with
    | [x, y], [t, t'] => match Nat.beq t t' with
      | true => apOp P o t x y s (K (tcOf s o))
      | false => Bad o
    | _, _ => Bad o
  | .call { callee := .value g, args, .. } => match ev s.fr g with
    | .f (.func f) first cap => forceL (first ++ evs s.fr args.toList ++ cap) fun xs => CallVC P E f xs s K
    | _ => Bad o
  | _ => Bad o

theorem cl_ok {P : Program} {o : Oper} {g : Operand} {args : Array Operand} {ts : Array TypeId} (ho : o.op = .call { callee := .value g, args := args, argTypes := ts }) {s : St} {f : FuncId} {first cap : List SV}
    (hg : ev s.fr g = .f (.func f) first cap) {K : List Nat → SV → St → Prop} {next : Act → World → Prop} {Q : Exit → Act → World → Prop} {a : Act}
    (hK : ∀ T sv s', K T sv s' → ∀ ρ' v w', Ag E ρ' s'.H s'.G w' → Rvs ρ' s'.fr a.tmps.toList → Rv ρ' sv v → Fp ρ ρ' s.G s'.G T w w' → next (a.put o.dst v) w')
    (hS : CallVC P E f (first ++ evs s.fr args.toList ++ cap) s K) (hA : Ag E ρ s.H s.G w) (hF : Rvs ρ s.fr a.tmps.toList) : o.wp P a w next Q := by
  have hgv := ev_ok hF g
  rw [hg] at hgv
  simp only [Rv] at hgv
  obtain ⟨a', c', hv, h1, h2⟩ := hgv
  have hargs : Rvs ρ (first ++ evs s.fr args.toList ++ cap) (a'.toList ++ args.toList.map a.eval ++ c'.toList) := (h1.append (evs_ok hF args.toList)).append h2
  have hrun : (execOp a.eval o).run P w = .ok (.enter f (a' ++ args.map a.eval ++ c')) w := by
    simp only [execOp, ho, resolve, hv, Deferred.ofValue, Sem.run_bind, Sem.run_pure, Result.andThen_ok, invoke]
    exact hS.enters _ _
  unfold Oper.wp
  rw [hrun, Oper.upon_enter]
  have hc := hS.calls ρ w _ hA hargs
  have he : (a'.toList ++ args.toList.map a.eval ++ c'.toList).toArray = a' ++ args.map a.eval ++ c' := by simp
  rw [he] at hc
  refine hc.mono fun e w' hh => ?_
  obtain ⟨v, T, sv, s', ρ', rfl, hk, hA', hr, hfr, hfp⟩ := hh
  exact hK T sv s' hk ρ' v w' hA' (hfr _ hF) hr hfp

theorem eff_ok {P : Program} {o : Oper} {s : St} {K : List Nat → SV → St → Prop} {next : Act → World → Prop} {Q : Exit → Act → World → Prop} {a : Act}
    (hK : ∀ T sv s', K T sv s' → ∀ ρ' v w', Ag E ρ' s'.H s'.G w' → Rvs ρ' s'.fr a.tmps.toList → Rv ρ' sv v → Fp ρ ρ' s.G s'.G T w w' → next (a.put o.dst v) w')
    (hS : effOp P E o s K) (hA : Ag E ρ s.H s.G w) (hF : Rvs ρ s.fr a.tmps.toList) : o.wp P a w next Q := by
  unfold effOp at hS
  split at hS
  · rename_i ho; exact st_ok ho s _ next Q a ρ w (hK _) hS hA hF
  · rename_i ho; exact al_ok ho s _ next Q a ρ w (hK _) hS hA hF
  · rename_i ho; exact bx_ok ho s _ next Q a ρ w (hK _) hS hA hF
  · rename_i ho; exact bs_ok ho s _ next Q a ρ w (hK _) hS hA hF
  · rename_i ho; exact mk_ok ho s _ next Q a ρ w (hK _) hS hA hF
  · rename_i args ts ho
    split at hS
    case h_2 => exact hS.no.elim
    rename_i x y t t' hargs hts
    split at hS
    · rename_i ht
      have ht' := Nat.eq_of_beq_eq_true ht
      subst ht'
      rw [two hargs, two hts] at ho
      exact ap_ok ho s _ next Q a ρ w (hK _) hS hA hF
    · exact hS.no.elim
  · rename_i g args ts ho
    split at hS
    · rename_i f first cap hg
      rw [forceL_eq] at hS
      exact cl_ok ho hg hK hS hA hF
    · exact hS.no.elim
  · exact hS.no.elim

def putS (d : Option Tmp) (v : SV) (s : St) (k : St → Prop) : Prop :=
  match d with
  | some t => s.un fun fr H G => forceSp (fr.set t v) fun fr' => k ⟨fr', H, G⟩
  | none => k s

theorem putS_ok {d : Option Tmp} {sv : SV} {s : St} {k : St → Prop} (h : putS d sv s k) {a : Act} {v : Value} (hF : Rvs ρ s.fr a.tmps.toList) (hv : Rv ρ sv v) :
    ∃ s', k s' ∧ s'.H = s.H ∧ s'.G = s.G ∧ Rvs ρ s'.fr (a.put d v).tmps.toList := by
  unfold putS at h
  cases d with
  | none => exact ⟨s, h, rfl, rfl, hF⟩
  | some t =>
    simp only [St.un_eq, forceSp_eq] at h
    refine ⟨_, h, rfl, rfl, ?_⟩
    simp only [Act.put, Array.toList_setIfInBounds]
    exact Rvs.set_ hv hF

def sxGuard (all : List Oper) (o : Oper) (s : St) (ex sk : St → Prop) : Prop :=
  match o.guard with
  | none => ex s
  | some (j, want) => match nth all j with
    | some oj => match oj.dst with
      | some t => match nth s.fr t with
        | some (.lit true) => match want with
          | true => ex s
          | false => sk s
        | some (.lit false) => match want with
          | true => sk s
          | false => ex s
        | some (.v (.bool b)) => br b
          (s.un fun fr H G => forceSp (fr.set t (.lit true)) fun fr' => match want with
            | true => ex ⟨fr', H, G⟩
            | false => sk ⟨fr', H, G⟩)
          (s.un fun fr H G => forceSp (fr.set t (.lit false)) fun fr' => match want with
            | true => sk ⟨fr', H, G⟩
            | false => ex ⟨fr', H, G⟩)
        | some (.v (.tuple _)) => sk s
        | _ => Bad o
      | none => Bad o
    | none => Bad o

theorem set_lit {fr : List SV} {ys : List Value} {t : Nat} {b : Bool} (hF : Rvs ρ fr ys) (hy : ys[t]? = some (.bool b)) : Rvs ρ (fr.set t (.lit b)) ys := by
  have h := Rvs.set_ (ρ := ρ) (x := .lit b) (y := .bool b) (by simp [Rv]) (k := t) hF
  have he : ys.set t (.bool b) = ys := by
    apply List.ext_getElem?
    intro k
    by_cases hk : t = k
    · subst hk
      rw [List.getElem?_set_self (by rw [List.getElem?_eq_some_iff] at hy; exact hy.1), hy]
    · rw [List.getElem?_set_ne hk]
  rwa [he] at h

theorem guard_ok {all : List Oper} {o : Oper} {s : St} {ex sk : St → Prop} (h : sxGuard all o s ex sk) {a : Act} (hF : Rvs ρ s.fr a.tmps.toList) :
    ∃ s', s'.H = s.H ∧ s'.G = s.G ∧ Rvs ρ s'.fr a.tmps.toList ∧
      ((Region.wanted o (yielded all.toArray a.tmps) = true ∧ ex s') ∨ (Region.wanted o (yielded all.toArray a.tmps) = false ∧ sk s')) := by
  unfold sxGuard at h
  split at h
  · rename_i hg; exact ⟨s, rfl, rfl, hF, .inl ⟨by simp [Region.wanted, hg], h⟩⟩
  · rename_i j want hg
    split at h
    case h_2 => exact h.no.elim
    rename_i oj hj
    split at h
    case h_2 => exact h.no.elim
    rename_i t ht
    simp only [nth_eq] at hj h
    have hy : ∀ {y : Value}, a.tmps.toList[t]? = some y → yielded all.toArray a.tmps j = match y with | .bool b => some b | _ => none := by
      intro y hy
      rw [Array.getElem?_toList] at hy
      simp [yielded, hj, ht, hy]
      cases y <;> rfl
    split at h
    · rename_i hs
      obtain ⟨y, hyt, hr⟩ := hF.get hs
      simp only [Rv] at hr; subst hr
      have hyy := hy hyt
      split at h
      · exact ⟨s, rfl, rfl, hF, .inl ⟨by simp [Region.wanted, hg, hyy], h⟩⟩
      · exact ⟨s, rfl, rfl, hF, .inr ⟨by simp [Region.wanted, hg, hyy], h⟩⟩
    · rename_i hs
      obtain ⟨y, hyt, hr⟩ := hF.get hs
      simp only [Rv] at hr; subst hr
      have hyy := hy hyt
      split at h
      · exact ⟨s, rfl, rfl, hF, .inr ⟨by simp [Region.wanted, hg, hyy], h⟩⟩
      · exact ⟨s, rfl, rfl, hF, .inl ⟨by simp [Region.wanted, hg, hyy], h⟩⟩
    · rename_i b hs
      obtain ⟨y, hyt, hr⟩ := hF.get hs
      simp only [Rv] at hr; subst hr
      have hyy := hy hyt
      have hb := br_ok h
      cases b
      · simp only [Bool.false_eq_true, if_false, St.un_eq, forceSp_eq] at hb
        split at hb
        · exact ⟨⟨s.fr.set t (.lit false), s.H, s.G⟩, rfl, rfl, set_lit hF hyt, .inr ⟨by simp [Region.wanted, hg, hyy], hb⟩⟩
        · exact ⟨⟨s.fr.set t (.lit false), s.H, s.G⟩, rfl, rfl, set_lit hF hyt, .inl ⟨by simp [Region.wanted, hg, hyy], hb⟩⟩
      · simp only [if_true, St.un_eq, forceSp_eq] at hb
        split at hb
        · exact ⟨⟨s.fr.set t (.lit true), s.H, s.G⟩, rfl, rfl, set_lit hF hyt, .inl ⟨by simp [Region.wanted, hg, hyy], hb⟩⟩
        · exact ⟨⟨s.fr.set t (.lit true), s.H, s.G⟩, rfl, rfl, set_lit hF hyt, .inr ⟨by simp [Region.wanted, hg, hyy], hb⟩⟩
    · rename_i ys hs
      obtain ⟨y, hyt, hr⟩ := hF.get hs
      simp only [Rv] at hr; subst hr
      have hyy := hy hyt
      exact ⟨s, rfl, rfl, hF, .inr ⟨by simp [Region.wanted, hg, hyy], h⟩⟩
    · exact h.no.elim

/-- Operations one behind the other. -/
def sxOps (P : Program) (E : Env) (all : List Oper) : List Oper → (St → Prop) → St → Prop
  | [], K, s => K s
  | o :: r, K, s => sxGuard all o s
    (fun s => match isEff o.op with
      | true => effOp P E o s fun _ v s' => putS o.dst v s' (sxOps P E all r K)
      | false => quOp P o s fun v => putS o.dst v s (sxOps P E all r K))
    (fun s => putS o.dst (.v undef) s (sxOps P E all r K))

theorem St.eta (s : St) : (⟨s.fr, s.H, s.G⟩ : St) = s := rfl

theorem sxOps_ok {P : Program} {all : List Oper} {Q : Exit → Act → World → Prop} : ∀ (l : List Oper) {K : St → Prop} {s : St} {a : Act} {w : World} {ρ : List Value},
    (∀ s', K s' → ∀ ρ' a' w', Ag E ρ' s'.H s'.G w' → Rvs ρ' s'.fr a'.tmps.toList → a'.defers = [] → Q .normal a' w') →
    sxOps P E all l K s → Ag E ρ s.H s.G w → Rvs ρ s.fr a.tmps.toList → a.defers = [] → wpList P all.toArray Q l a w
  | [], K, s, a, w, ρ, hK, hS, hA, hF, hd => hK s hS ρ a w hA hF hd
  | o :: r, K, s, a, w, ρ, hK, hS, hA, hF, hd => by
    simp only [sxOps] at hS
    have hd' : ∀ v, (a.put o.dst v).defers = [] := fun v => by cases o.dst <;> exact hd
    obtain ⟨s1, h1, h2, h3, hw⟩ := guard_ok hS hF
    rw [← h1, ← h2] at hA
    unfold wpList
    rcases hw with ⟨hw, hx⟩ | ⟨hw, hx⟩
    · rw [if_pos hw]
      refine .inl ?_
      split at hx
      · refine eff_ok (ρ := ρ) (fun T sv s' hk ρ' v w' hA' hF' hr hfp => ?_) hx hA h3
        obtain ⟨s2, hk2, e1, e2, hF2⟩ := putS_ok hk hF' hr
        exact sxOps_ok r hK hk2 (by rw [e1, e2]; exact hA') hF2 (hd' v)
      · obtain ⟨v, sv, hk, hr, hrun⟩ := qu_ok _ a ρ w hx hA h3
        obtain ⟨s2, hk2, e1, e2, hF2⟩ := putS_ok hk h3 hr
        exact wp_value (hrun w (Agr.refl _ _ _ _)) (sxOps_ok r hK hk2 (by rw [e1, e2]; exact hA) hF2 (hd' v))
    · rw [if_neg (by simp [hw])]
      obtain ⟨s2, hk2, e1, e2, hF2⟩ := putS_ok hx h3 (v := undef) (by simp [Rv])
      exact sxOps_ok r hK hk2 (by rw [e1, e2]; exact hA) hF2 (hd' _)
end
end Go.SX
