/- A symbolic walk: what each operation does to a symbolic state. -/
import Derived.Test.YtgdfhpknhcjipaaSX1
namespace Go.SX

structure St where
  fr : List SV
  H : List Ob
  G : Gh

/-- The parts of a state, as they stand. -/
def St.un (s : St) (k : List SV → List Ob → Gh → Prop) : Prop := match s with
  | ⟨a, b, c⟩ => k a b c
theorem St.un_eq (s : St) (k : List SV → List Ob → Gh → Prop) : s.un k = k s.fr s.H s.G := rfl

/-- What the walk does not take. -/
structure Bad (o : Oper) : Prop where
  no : False

def nth {α : Type} : List α → Nat → Option α
  | [], _ => none
  | a :: _, 0 => some a
  | _ :: l, n + 1 => nth l n
theorem nth_eq {α : Type} : ∀ (l : List α) (n : Nat), nth l n = l[n]?
  | [], n => by simp [nth]
  | a :: l, 0 => by simp [nth]
  | a :: l, n + 1 => by simp [nth, nth_eq l n]

/-- A small number as a numeral. -/
def litN : Nat → (Nat → Prop) → Prop
  | 0, k => k 0
  | 1, k => k 1
  | 2, k => k 2
  | 3, k => k 3
  | 4, k => k 4
  | 5, k => k 5
  | 6, k => k 6
  | 7, k => k 7
  | 8, k => k 8
  | 9, k => k 9
  | 10, k => k 10
  | 11, k => k 11
  | 12, k => k 12
  | 13, k => k 13
  | 14, k => k 14
  | 15, k => k 15
  | 16, k => k 16
  | 17, k => k 17
  | 18, k => k 18
  | 19, k => k 19
  | 20, k => k 20
  | 21, k => k 21
  | 22, k => k 22
  | 23, k => k 23
  | 24, k => k 24
  | 25, k => k 25
  | 26, k => k 26
  | 27, k => k 27
  | 28, k => k 28
  | 29, k => k 29
  | 30, k => k 30
  | 31, k => k 31
  | 32, k => k 32
  | 33, k => k 33
  | 34, k => k 34
  | 35, k => k 35
  | 36, k => k 36
  | 37, k => k 37
  | 38, k => k 38
  | 39, k => k 39
  | 40, k => k 40
  | n, k => k n
theorem litN_eq (n : Nat) (k : Nat → Prop) : litN n k = k n := by unfold litN; split <;> rfl

def forceSp {α : Type} : List α → (List α → Prop) → Prop
  | [], k => k []
  | a :: l, k => forceSp l fun l' => k (a :: l')
theorem forceSp_eq {α : Type} : ∀ (l : List α) (k : List α → Prop), forceSp l k = k l
  | [], _ => rfl
  | a :: l, k => by simp [forceSp, forceSp_eq l]

mutual
def forceSV : SV → (SV → Prop) → Prop
  | .v x, k => k (.v x)
  | .p i o, k => litN i fun i => k (.p i o)
  | .s i, k => litN i fun i => k (.s i)
  | .f fn a c, k => forceL a fun a' => forceL c fun c' => k (.f fn a' c')
  | .agg xs, k => forceL xs fun xs' => k (.agg xs')
  | .tup xs, k => forceL xs fun xs' => k (.tup xs')
  | .lit b, k => k (.lit b)
  | .dead, k => k .dead
def forceL : List SV → (List SV → Prop) → Prop
  | [], k => k []
  | x :: xs, k => forceSV x fun x' => forceL xs fun xs' => k (x' :: xs')
end
mutual
theorem forceSV_eq : ∀ (x : SV) (k : SV → Prop), forceSV x k = k x
  | .v _, _ => by simp [forceSV]
  | .p _ _, _ => by simp [forceSV, litN_eq]
  | .s _, _ => by simp [forceSV, litN_eq]
  | .f fn a c, k => by simp [forceSV, forceL_eq a, forceL_eq c]
  | .agg xs, k => by simp [forceSV, forceL_eq xs]
  | .tup xs, k => by simp [forceSV, forceL_eq xs]
  | .lit _, _ => by simp [forceSV]
  | .dead, _ => by simp [forceSV]
theorem forceL_eq : ∀ (x : List SV) (k : List SV → Prop), forceL x k = k x
  | [], _ => by simp [forceL]
  | x :: xs, k => by simp [forceL, forceSV_eq x, forceL_eq xs]
end

def evr (fr : List SV) : Operand → SV
  | .tmp t => match nth fr t with
    | some x => x
    | none => .dead
  | .const v => .v v
  | .global g => .v (.pointer (some ⟨g, 0, none⟩))
  | .func f => .f (.func f) [] []
def nrm : SV → SV
  | .lit b => .v (.bool b)
  | .v x => .v x
  | .p i o => .p i o
  | .s i => .s i
  | .f a b c => .f a b c
  | .agg xs => .agg xs
  | .tup xs => .tup xs
  | .dead => .dead
def ev (fr : List SV) (x : Operand) : SV := nrm (evr fr x)

def evs (fr : List SV) : List Operand → List SV
  | [] => []
  | x :: xs => ev fr x :: evs fr xs

theorem evr_ok {ρ : List Value} {fr : List SV} {a : Act} (h : Rvs ρ fr a.tmps.toList) (x : Operand) : Rv ρ (evr fr x) (a.eval x) := by
  cases x with
  | tmp t =>
    simp only [evr, nth_eq]
    cases hx : fr[t]? with
    | none => simp [Rv]
    | some sv =>
      obtain ⟨y, hy, hv⟩ := h.get hx
      have : a.eval (.tmp t) = y := by
        simp only [Act.eval]
        rw [Array.getElem?_toList] at hy
        simp [Array.getD_eq_getD_getElem?, hy]
      rw [this]; exact hv
  | const v => simp [evr, Rv, Act.eval]
  | global g => simp [evr, Rv, Act.eval]
  | func f => simp [evr, Rv, Act.eval, Rvs]
theorem nrm_ok {ρ : List Value} {x : SV} {y : Value} (h : Rv ρ x y) : Rv ρ (nrm x) y := by
  cases x <;> first | exact h | (simp only [nrm, Rv] at h ⊢; exact h)
theorem ev_ok {ρ : List Value} {fr : List SV} {a : Act} (h : Rvs ρ fr a.tmps.toList) (x : Operand) : Rv ρ (ev fr x) (a.eval x) := nrm_ok (evr_ok h x)

theorem evs_ok {ρ : List Value} {fr : List SV} {a : Act} (h : Rvs ρ fr a.tmps.toList) : ∀ (xs : List Operand), Rvs ρ (evs fr xs) (xs.map a.eval)
  | [] => by simp [evs, Rvs]
  | x :: xs => by simp only [evs, List.map_cons, Rvs]; exact ⟨_, _, rfl, ev_ok h x, evs_ok h xs⟩

def tyAgg (P : Program) (t : TypeId) : Option Bool :=
  match P.underlying t with
  | some (.struct _) => some true
  | some (.array _ _) => some true
  | some _ => some false
  | none => none
def szOf (P : Program) (t : TypeId) : Option Nat :=
  match P.info? t with
  | some i => some i.size
  | none => none

theorem run_isAgg' {P : Program} {t : TypeId} {b : Bool} (h : tyAgg P t = some b) (w : World) : (isAgg t).run P w = .ok b w := by
  unfold tyAgg at h
  cases hu : P.underlying t with
  | none => simp [hu] at h
  | some d =>
    rw [hu] at h
    cases d <;> simp at h <;> subst h <;> simp [isAgg, run_underlying hu]
theorem run_sizeOf' {P : Program} {t : TypeId} {n : Nat} (h : szOf P t = some n) (w : World) : (sizeOf t).run P w = .ok n w := by
  unfold szOf at h
  cases hu : P.info? t with
  | none => simp [hu] at h
  | some i => rw [hu] at h; simp at h; subst h; simp [sizeOf, typeInfo, hu]

def cellsOf : SV → Option (List SV)
  | .v (.agg ys) => some (vs ys.toList)
  | .v (.tuple _) => none
  | .v x => some [.v x]
  | .p i o => some [.p i o]
  | .s i => some [.s i]
  | .f a b c => some [.f a b c]
  | .agg xs => some xs
  | .tup _ => none
  | .lit b => some [.v (.bool b)]
  | .dead => none
def one : SV → Bool
  | .v (.agg _) => false
  | .v (.tuple _) => false
  | .v _ => true
  | .p _ _ => true
  | .s _ => true
  | .f _ _ _ => true
  | _ => false
def allOne : List SV → Bool
  | [] => true
  | x :: xs => if one x then allOne xs else false

section
variable {E : Env} {ρ : List Value} {H : List Ob} {G : Gh} {w : World}

theorem one_ok (h : Ag E ρ H G w) {x : SV} {y : Value} (hv : Rv ρ x y) (hx : one x = true) : y.oneCell' = true := by
  cases x with
  | v x => simp only [Rv] at hv; subst hv; cases y <;> simp_all [one, Value.oneCell']
  | p i o => simp only [Rv] at hv; obtain ⟨x, b, _, _, rfl⟩ := hv; rfl
  | s i => simp only [Rv] at hv; exact h.one hv
  | f fn a c => simp only [Rv] at hv; obtain ⟨a', c', rfl, _⟩ := hv; rfl
  | agg xs => simp [one] at hx
  | tup xs => simp [one] at hx
  | lit b => simp [one] at hx
  | dead => simp [one] at hx
theorem allOne_ok (h : Ag E ρ H G w) : ∀ {xs : List SV} {ys : List Value}, Rvs ρ xs ys → allOne xs = true → ∀ v ∈ ys, v.oneCell' = true
  | [], _, hv, _ => by simp only [Rvs] at hv; subst hv; simp
  | x :: xs, _, hv, hx => by
    simp only [Rvs] at hv
    obtain ⟨y, yt, rfl, h1, h2⟩ := hv
    simp only [allOne] at hx
    split at hx
    · rename_i ho
      intro v hm
      rcases List.mem_cons.1 hm with rfl | hm
      · exact one_ok h h1 ho
      · exact allOne_ok h h2 hx v hm
    · simp at hx
theorem cells_of_one {v : Value} (h : v.oneCell' = true) : v.cells = #[v] := by cases v <;> simp_all [Value.oneCell', Value.cells]
theorem cellsOf_ok (h : Ag E ρ H G w) {x : SV} {y : Value} (hv : Rv ρ x y) {xs : List SV} (hx : cellsOf x = some xs) : Rvs ρ xs y.cells.toList := by
  have single : ∀ {x' : SV}, one x' = true → Rv ρ x' y → Rvs ρ [x'] y.cells.toList := fun ho hr => by
    rw [cells_of_one (one_ok h hr ho)]
    simp only [Rvs]
    exact ⟨y, [], rfl, hr, rfl⟩
  cases x with
  | v x =>
    have hr := hv
    simp only [Rv] at hv; subst hv
    cases y <;> simp [cellsOf] at hx <;> subst hx <;> first
      | exact single rfl hr
      | exact Rvs.of_vs _
  | p i o => simp [cellsOf] at hx; subst hx; exact single rfl hv
  | s i => simp [cellsOf] at hx; subst hx; exact single rfl hv
  | f fn a c => simp [cellsOf] at hx; subst hx; exact single rfl hv
  | agg xs' => simp [cellsOf] at hx; subst hx; simp only [Rv] at hv; obtain ⟨ys, rfl, h1⟩ := hv; exact h1
  | tup xs => simp [cellsOf] at hx
  | lit b => simp [cellsOf] at hx; subst hx; simp only [Rv] at hv; subst hv; exact single rfl (by simp [Rv])
  | dead => simp [cellsOf] at hx

/-- A cell of memory that nobody changes. -/
def Gcell (G : Gh) (a : Addr) : Option Value :=
  match G a.block with
  | some (.cells c _ _) => if a.spot.isSome then none else c[a.off]?
  | _ => none
def Gat (G : Gh) (a : Addr) (ys : List Value) : Prop := ∀ j v, ys[j]? = some v → Gcell G (a.add j) = some v
theorem Ag.cell (h : Ag E ρ H G w) {a : Addr} {v : Value} (hc : Gcell G a = some v) : w.cell? a = some v := by
  unfold Gcell at hc
  unfold World.cell?
  cases hg : G a.block with
  | none => simp [hg] at hc
  | some o => rw [h.ext _ _ hg]; rw [hg] at hc; exact hc

def idsS : List SV → List Nat
  | [] => []
  | .s k :: l => k :: idsS l
  | _ :: l => idsS l
/-- The objects that are done once this is appended. -/
def apT (s : St) (y : Operand) : List Nat :=
  match ev s.fr y with
  | .s j => match nth s.H j with
    | some (.lit _ _ zs) => idsS zs
    | _ => []
  | _ => []
/-- The objects that an operation changes. -/
def tcOf (s : St) (o : Oper) : List Nat :=
  match o.op with
  | .store _ x _ => match ev s.fr x with
    | .p i _ => [i]
    | _ => []
  | .call { callee := .builtin _, args, .. } => match args.toList with
    | [x, y] => match ev s.fr x with
      | .s i => i :: apT s y
      | _ => apT s y
    | _ => []
  | _ => []
/-- What is not changed. -/
structure Fp (ρ ρ' : List Value) (G G' : Gh) (T : List Nat) (w w' : World) : Prop where
  blk : ∀ b, b < w.heap.size → (∀ i ∈ T, ∀ x, ρ[i]? = some x → blkOf x ≠ some b) → w'.heap[b]? = w.heap[b]?
  ids : ∀ (i : Nat) x, i ∉ T → ρ[i]? = some x → ρ'[i]? = some x
  gh : ∀ b o, G b = some o → G' b = some o
theorem Fp.blk_grown {w' : World} {T : List Nat} {row : Option Nat} (hg : w.grownBy w' row) (h : ∀ b, row = some b → ∃ i ∈ T, ∃ x, ρ[i]? = some x ∧ blkOf x = some b) :
    ∀ b, b < w.heap.size → (∀ i ∈ T, ∀ x, ρ[i]? = some x → blkOf x ≠ some b) → w'.heap[b]? = w.heap[b]? := by
  intro b hb hT
  refine hg.block b hb fun hr => ?_
  obtain ⟨i, hi, x, hx, hbx⟩ := h b hr.symm
  exact hT i hi x hx hbx
theorem Fp.grown {w' : World} {T : List Nat} {row : Option Nat} (hg : w.grownBy w' row) (h : ∀ b, row = some b → ∃ i ∈ T, ∃ x, ρ[i]? = some x ∧ blkOf x = some b) : Fp ρ ρ G G T w w' :=
  ⟨Fp.blk_grown hg h, fun _ _ _ hx => hx, fun _ _ hx => hx⟩
theorem Fp.push {w' : World} {T : List Nat} {l : List Value} (hg : w.grownBy w' none) : Fp ρ (ρ ++ l) G G T w w' :=
  ⟨Fp.blk_grown hg (by simp), fun i x _ hx => by rw [List.getElem?_append_left (List.getElem?_eq_some_iff.1 hx).1]; exact hx, fun _ _ hx => hx⟩
theorem Fp.set_ {w' : World} {T : List Nat} {row : Option Nat} {i : Nat} {v : Value} (hg : w.grownBy w' row) (h : ∀ b, row = some b → ∃ i ∈ T, ∃ x, ρ[i]? = some x ∧ blkOf x = some b) (hi : i ∈ T) : Fp ρ (ρ.set i v) G G T w w' :=
  ⟨Fp.blk_grown hg h, fun j x hj hx => by rw [List.getElem?_set_ne (fun (e : i = j) => hj (by rw [← e]; exact hi))]; exact hx, fun _ _ hx => hx⟩

/-- What an operation with an effect must come to. -/
def Ok (P : Program) (E : Env) (o : Oper) (s : St) (S : (SV → St → Prop) → Prop) : Prop :=
  ∀ (K : SV → St → Prop) (next : Act → World → Prop) (Q : Exit → Act → World → Prop) (a : Act) (ρ : List Value) (w : World),
    (∀ sv s', K sv s' → ∀ ρ' v w', Ag E ρ' s'.H s'.G w' → Rvs ρ' s'.fr a.tmps.toList → Rv ρ' sv v → Fp ρ ρ' s.G s'.G (tcOf s o) w w' → next (a.put o.dst v) w') →
    S K → Ag E ρ s.H s.G w → Rvs ρ s.fr a.tmps.toList → o.wp P a w next Q

/-- The objects that a quiet operation reads. -/
def rdOf (s : St) (o : Oper) : List Nat :=
  match o.op with
  | .load _ x => match ev s.fr x with
    | .p i _ => [i]
    | _ => []
  | _ => []
/-- Two worlds that agree where it matters. -/
def Agr (G : Gh) (ρ : List Value) (rd : List Nat) (w w' : World) : Prop :=
  (∀ b o, G b = some o → w'.heap[b]? = w.heap[b]?) ∧ (∀ i ∈ rd, ∀ x b, ρ[i]? = some x → blkOf x = some b → w'.heap[b]? = w.heap[b]?)
theorem Agr.refl (G : Gh) (ρ : List Value) (rd : List Nat) (w : World) : Agr G ρ rd w w := ⟨fun _ _ _ => rfl, fun _ _ _ _ _ _ => rfl⟩
/-- What an operation without an effect must come to. -/
def Qu (P : Program) (E : Env) (o : Oper) (s : St) (S : (SV → Prop) → Prop) : Prop :=
  ∀ (K : SV → Prop) (a : Act) (ρ : List Value) (w : World), S K → Ag E ρ s.H s.G w → Rvs ρ s.fr a.tmps.toList →
    ∃ v sv, K sv ∧ Rv ρ sv v ∧ ∀ w', Agr s.G ρ (rdOf s o) w w' → (execOp a.eval o).run P w' = .ok (.value v) w'

theorem Gcell_agr {rd : List Nat} {w' : World} {a : Addr} {v : Value} (hA : Ag E ρ H G w) (hg : Agr G ρ rd w w') (hc : Gcell G a = some v) : w'.cell? a = some v := by
  have h := hA.cell hc
  unfold Gcell at hc
  cases hb : G a.block with
  | none => simp [hb] at hc
  | some o => rw [World.cell?_of_block (hg.1 _ _ hb)]; exact h

theorem wp_value {P : Program} {o : Oper} {a : Act} {w w' : World} {next : Act → World → Prop} {Q : Exit → Act → World → Prop} {v : Value}
    (hr : (execOp a.eval o).run P w = .ok (.value v) w') (h : next (a.put o.dst v) w') : o.wp P a w next Q := by
  unfold Oper.wp; rw [hr]; exact h
theorem wp_skip' {P : Program} {o : Oper} {a : Act} {w w' : World} {next : Act → World → Prop} {Q : Exit → Act → World → Prop}
    (hr : (execOp a.eval o).run P w = .ok .skip w') (h : next (a.put o.dst undef) w') : o.wp P a w next Q := by
  unfold Oper.wp; rw [hr]; exact h

/-! ### loads -/
def ldMany (o : Oper) (xs : List SV) (off n : Nat) (k : SV → Prop) : Prop :=
  match Nat.ble (off + n) xs.length with
  | true => k (.agg ((xs.drop off).take n))
  | false => Bad o
def ldOp (P : Program) (o : Oper) (T : TypeId) (x : Operand) (s : St) (K : SV → Prop) : Prop :=
  match tyAgg P T, szOf P T, ev s.fr x with
  | some true, some n, .p i off => match nth s.H i with
    | some (.cells _ xs) => ldMany o xs off n K
    | some (.lit _ _ xs) => ldMany o xs off n K
    | some (.row _ _ _ xs) => ∃ ys, ys.length = n ∧ (∀ j v, ys[j]? = some v → xs[off + j]? = some v) ∧ K (.agg (vs ys))
    | _ => Bad o
  | some true, some n, .v (.pointer (some a)) => litN n fun n => ∃ ys, ys.length = n ∧ Gat s.G a ys ∧ K (.agg (vs ys))
  | some false, _, .p i off => match nth s.H i with
    | some (.cells _ xs) => match nth xs off with
      | some v => K v
      | none => Bad o
    | some (.lit _ _ xs) => match nth xs off with
      | some v => K v
      | none => Bad o
    | some (.row _ _ _ xs) => ∃ v, xs[off]? = some v ∧ K (.v v)
    | _ => Bad o
  | some false, _, .v (.pointer (some a)) => ∃ v, Gcell s.G a = some v ∧ K (.v v)
  | _, _, _ => Bad o

theorem base_blk {x : Value} {b : Nat} (h : base x = some b) : blkOf x = some b := by
  unfold base at h
  split at h <;> simp_all [blkOf]

theorem add_off (b o j : Nat) : (⟨b, o, none⟩ : Addr).add j = ⟨b, o + j, none⟩ := by unfold Addr.add; split <;> simp_all

theorem cell_at {w : World} {b : Nat} {cs : Array Value} {T : TypeId} (h : w.heap[b]? = some (.cells cs T (0, 0))) (j : Nat) : w.cell? ⟨b, j, none⟩ = cs[j]? := by
  simp [World.cell?, h]

/-- The cells behind a pointer into an object. -/
theorem Ag.rowCell (h : Ag E ρ H G w) {i : Nat} {x : Value} {b : Nat} {e : TypeId} {sz n : Nat} {xs : List Value} (hx : ρ[i]? = some x) (hb : base x = some b) (hH : H[i]? = some (.row e sz n xs)) :
    ∀ (j : Nat) v, xs[j]? = some v → w.cell? ⟨b, j, none⟩ = some v := by
  have ho := h.obs i _ x hH hx
  simp only [ObOK] at ho
  intro j v hv
  have hk : x.ownBlock = some b := by
    unfold base at hb
    split at hb <;> simp_all [Value.ownBlock]
    rcases ho.2 with ⟨h1, _⟩ | ⟨g, cap, cur, h1, _⟩ <;> simp at h1
  have := ho.cells hk j v hv
  rwa [add_off, Nat.zero_add] at this
theorem Ag.cellsAt (h : Ag E ρ H G w) {i : Nat} {x : Value} {b : Nat} {T : TypeId} {xs : List SV} (hx : ρ[i]? = some x) (hb : base x = some b) (hH : H[i]? = some (.cells T xs)) :
    ∃ cs, w.heap[b]? = some (.cells cs T (0, 0)) ∧ Rvs ρ xs cs.toList := by
  have ho := h.obs i _ x hH hx
  simp only [ObOK] at ho
  obtain ⟨b', cs, rfl, h1, h2⟩ := ho
  simp [base] at hb; subst hb
  exact ⟨cs, h1, h2⟩
theorem Ag.litAt (h : Ag E ρ H G w) {i : Nat} {x : Value} {b : Nat} {T : TypeId} {n : Nat} {xs : List SV} (hx : ρ[i]? = some x) (hb : base x = some b) (hH : H[i]? = some (.lit T n xs)) :
    ∃ cs, w.heap[b]? = some (.cells cs T (0, 0)) ∧ Rvs ρ xs cs.toList := by
  have ho := h.obs i _ x hH hx
  simp only [ObOK] at ho
  obtain ⟨b', cs, rfl, h1, h2⟩ := ho
  simp [base] at hb; subst hb
  exact ⟨cs, h1, h2⟩

theorem run_load_agg {P : Program} {T : TypeId} {a : Addr} {n : Nat} (ha : tyAgg P T = some true) (hs : szOf P T = some n) (cs : List Value) (hl : cs.length = n)
    (h : ∀ j v, cs[j]? = some v → w.cell? (a.add j) = some v) : (loadVar T a).run P w = .ok (.agg cs.toArray) w := by
  subst hl
  simp [loadVar, run_isAgg' ha, run_sizeOf' hs, run_loadCells_list w a cs h]
theorem run_load_one {P : Program} {T : TypeId} {a : Addr} (ha : tyAgg P T = some false) (v : Value) (h : w.cell? a = some v) : (loadVar T a).run P w = .ok v w := by
  simp [loadVar, run_isAgg' ha, h]

theorem ldMany_ok {o : Oper} {xs : List SV} {off n : Nat} {k : SV → Prop} (h : ldMany o xs off n k) : off + n ≤ xs.length ∧ k (.agg ((xs.drop off).take n)) := by
  unfold ldMany at h
  split at h
  · rename_i hb; exact ⟨Nat.le_of_ble_eq_true hb, h⟩
  · exact h.no.elim

theorem ld_ok {P : Program} {o : Oper} {T : TypeId} {x : Operand} (ho : o.op = .load T x) (s : St) : Qu P E o s (ldOp P o T x s) := by
  intro K a ρ w hS hA hF
  have hx := ev_ok hF x
  have many : ∀ {xs : List SV} {off n i b : Nat} {z : Value} {cs : Array Value} {T' : TypeId}, tyAgg P T = some true → szOf P T = some n → a.eval x = .pointer (some ⟨b, off, none⟩) →
      w.heap[b]? = some (.cells cs T' (0, 0)) → Rvs ρ xs cs.toList → rdOf s o = [i] → ρ[i]? = some z → base z = some b → ldMany o xs off n K →
      ∃ v sv, K sv ∧ Rv ρ sv v ∧ ∀ w', Agr s.G ρ (rdOf s o) w w' → (execOp a.eval o).run P w' = .ok (.value v) w' := by
    intro xs off n i b z cs T' h1 h2 hp hc hr hrd hz hb hl
    obtain ⟨hle, hk⟩ := ldMany_ok hl
    have hlen : cs.toList.length = xs.length := hr.length
    refine ⟨.agg ((cs.toList.drop off).take n).toArray, _, hk, by simp only [Rv]; exact ⟨_, rfl, by simpa using (hr.drop_ off).take_ n⟩, fun w' hw' => ?_⟩
    have hc' : w'.heap[b]? = some (.cells cs T' (0, 0)) := by rw [hw'.2 i (by simp [hrd]) z b hz (base_blk hb)]; exact hc
    have hrun := run_load_agg (w := w') (a := ⟨b, off, none⟩) h1 h2 ((cs.toList.drop off).take n) (by simp at hlen ⊢; omega) (by
      intro j v hj
      rw [add_off, cell_at hc']
      rw [List.getElem?_take] at hj
      split at hj
      · rw [List.getElem?_drop] at hj; simpa using hj
      · simp at hj)
    simp [execOp, ho, Instr.loadAt, Instr.sureAddr, hp, hrun]
  have single : ∀ {v : SV} {y : Value} {ad : Addr}, tyAgg P T = some false → a.eval x = .pointer (some ad) → (∀ w', Agr s.G ρ (rdOf s o) w w' → w'.cell? ad = some y) → Rv ρ v y → K v →
      ∃ v sv, K sv ∧ Rv ρ sv v ∧ ∀ w', Agr s.G ρ (rdOf s o) w w' → (execOp a.eval o).run P w' = .ok (.value v) w' := by
    intro v y ad h1 hp hc hr hk
    exact ⟨y, v, hk, hr, fun w' hw' => by simp [execOp, ho, Instr.loadAt, Instr.sureAddr, hp, run_load_one h1 y (hc w' hw')]⟩
  unfold ldOp at hS
  split at hS
  · rename_i n i off h1 h2 h3
    have hrd : rdOf s o = [i] := by simp [rdOf, ho, h3]
    rw [h3] at hx
    simp only [Rv] at hx
    obtain ⟨z, b, hz, hb, hp⟩ := hx
    simp only [nth_eq] at hS
    split at hS
    · rename_i T' xs hH
      obtain ⟨cs, hc, hr⟩ := hA.cellsAt hz hb hH
      exact many h1 h2 hp hc hr hrd hz hb hS
    · rename_i T' n' xs hH
      obtain ⟨cs, hc, hr⟩ := hA.litAt hz hb hH
      exact many h1 h2 hp hc hr hrd hz hb hS
    · rename_i e sz n' xs hH
      obtain ⟨ys, hl, hy, hk⟩ := hS
      refine ⟨.agg ys.toArray, _, hk, by simp only [Rv]; exact ⟨_, rfl, by simpa using Rvs.of_vs ys⟩, fun w' hw' => ?_⟩
      have hrun := run_load_agg (w := w') (a := ⟨b, off, none⟩) h1 h2 ys hl (by
        intro j v hj
        rw [add_off]
        rw [World.cell?_of_block (hw'.2 i (by simp [hrd]) z b hz (base_blk hb))]
        exact hA.rowCell hz hb hH _ _ (hy j v hj))
      simp [execOp, ho, Instr.loadAt, Instr.sureAddr, hp, hrun]
    · exact hS.no.elim
  · rename_i n ad h1 h2 h3
    rw [h3] at hx
    simp only [Rv] at hx
    rw [litN_eq] at hS
    obtain ⟨ys, hl, hy, hk⟩ := hS
    refine ⟨.agg ys.toArray, _, hk, by simp only [Rv]; exact ⟨_, rfl, by simpa using Rvs.of_vs ys⟩, fun w' hw' => ?_⟩
    have hrun := run_load_agg (w := w') (a := ad) h1 h2 ys hl (fun j v hj => Gcell_agr hA hw' (hy j v hj))
    simp [execOp, ho, Instr.loadAt, Instr.sureAddr, hx, hrun]
  · rename_i i off h1 h3
    have hrd : rdOf s o = [i] := by simp [rdOf, ho, h3]
    rw [h3] at hx
    simp only [Rv] at hx
    obtain ⟨z, b, hz, hb, hp⟩ := hx
    simp only [nth_eq] at hS
    split at hS
    · rename_i T' xs hH
      obtain ⟨cs, hc, hr⟩ := hA.cellsAt hz hb hH
      split at hS
      · rename_i v hv
        obtain ⟨y, hy, hrv⟩ := hr.get hv
        exact single h1 hp (fun w' hw' => by rw [World.cell?_of_block (hw'.2 i (by simp [hrd]) z b hz (base_blk hb)), cell_at hc]; simpa using hy) hrv hS
      · exact hS.no.elim
    · rename_i T' n' xs hH
      obtain ⟨cs, hc, hr⟩ := hA.litAt hz hb hH
      split at hS
      · rename_i v hv
        obtain ⟨y, hy, hrv⟩ := hr.get hv
        exact single h1 hp (fun w' hw' => by rw [World.cell?_of_block (hw'.2 i (by simp [hrd]) z b hz (base_blk hb)), cell_at hc]; simpa using hy) hrv hS
      · exact hS.no.elim
    · rename_i e sz n' xs hH
      obtain ⟨v, hv, hk⟩ := hS
      exact single h1 hp (fun w' hw' => by rw [World.cell?_of_block (hw'.2 i (by simp [hrd]) z b hz (base_blk hb))]; exact hA.rowCell hz hb hH _ _ hv) (by simp [Rv]) hk
    · exact hS.no.elim
  · rename_i ad h1 h3
    rw [h3] at hx
    simp only [Rv] at hx
    obtain ⟨v, hv, hk⟩ := hS
    exact single h1 hx (fun w' hw' => Gcell_agr hA hw' hv) (by simp [Rv]) hk
  · exact hS.no.elim

end
end Go.SX
