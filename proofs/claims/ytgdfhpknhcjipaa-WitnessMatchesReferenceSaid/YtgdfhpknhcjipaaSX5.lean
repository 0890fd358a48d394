/- A symbolic walk: operations that ask something. -/
import Derived.Test.YtgdfhpknhcjipaaSX4
import Derived.Shelf.Abstract
namespace Go.SX
set_option linter.unusedVariables false
set_option linter.unusedSimpArgs false
section
variable {E : Env} {ρ : List Value} {H : List Ob} {G : Gh} {w : World}

/-- Two ways. -/
structure br (b : Bool) (A B : Prop) : Prop where
  t : b = true → A
  f : b = false → B
theorem br_ok {b : Bool} {A B : Prop} (h : br b A B) : if b then A else B := by
  cases b
  · exact h.f rfl
  · exact h.t rfl
theorem br_t {A B : Prop} (h : A) : br true A B := ⟨fun _ => h, fun h => Bool.noConfusion h⟩
theorem br_f {A B : Prop} (h : B) : br false A B := ⟨fun h => Bool.noConfusion h, fun _ => h⟩
theorem br_nn {α : Type} {A B : Prop} (h : A) : br (Option.isNone (none : Option α)) A B := show br true A B from br_t h
theorem br_ns {α : Type} {x : α} {A B : Prop} (h : B) : br (Option.isNone (some x)) A B := show br false A B from br_f h
theorem br_d {p : Prop} [Decidable p] {A B : Prop} (h1 : p → A) (h2 : ¬ p → B) : br (decide p) A B := ⟨fun h => h1 (of_decide_eq_true h), fun h => h2 (of_decide_eq_false h)⟩
theorem br_e {x y : Int} {A B : Prop} (h1 : x = y → A) (h2 : x ≠ y → B) : br (x == y) A B := ⟨fun h => h1 (by simpa using h), fun h => h2 (by simpa using h)⟩
theorem br_n {x y : Int} {A B : Prop} (h1 : x = y → B) (h2 : x ≠ y → A) : br (x != y) A B := ⟨fun h => h2 (by simpa using h), fun h => h1 (by simpa using h)⟩
theorem br_not {b : Bool} {A B : Prop} (h : br b B A) : br (!b) A B := ⟨fun hb => h.f (by simpa using hb), fun hb => h.t (by simpa using hb)⟩
/-- The walk has come to a stop. -/
structure Stop (A : Prop) : Prop where
  out : A
theorem stop {A : Prop} (h : Stop A) : A := h.out
theorem br_in {b : Bool} {A B : Prop} (h1 : b = true → A) (h2 : b = false → B) : br b A B := ⟨h1, h2⟩

/-- A slice that nobody changes: its cells. -/
structure Sl (G : Gh) (A : Option Addr) (n c sz : Nat) (cs : List Value) : Prop where
  len : cs.length = n * sz
  cap : n ≤ c
  top : c ≤ 9223372036854775807
  there : ∀ ad, A = some ad → Gat G ad cs
  nil : A = none → n = 0 ∧ c = 0
  ones : ∀ v ∈ cs, v.oneCell' = true

/-! ### pick -/
def pkOp (o : Oper) (c a b : Operand) (s : St) (K : SV → Prop) : Prop :=
  match evr s.fr c with
  | .lit true => forceSV (evr s.fr a) K
  | .lit false => forceSV (evr s.fr b) K
  | .v (.bool t) => br t (forceSV (evr s.fr a) K) (forceSV (evr s.fr b) K)
  | _ => Bad o
theorem pk_ok {P : Program} {o : Oper} {c x y : Operand} (ho : o.op = .pick c x y) (s : St) : Qu P E o s (pkOp o c x y s) := by
  intro K a ρ w hS hA hF
  have hcv := evr_ok hF c
  have tt : a.eval c = .bool true → K (evr s.fr x) → ∃ v sv, K sv ∧ Rv ρ sv v ∧ ∀ w', Agr s.G ρ (rdOf s o) w w' → (execOp a.eval o).run P w' = .ok (.value v) w' := fun hc hk =>
    ⟨a.eval x, _, hk, evr_ok hF x, fun w' _ => by simp [execOp, ho, hc, asBool]⟩
  have ff : a.eval c = .bool false → K (evr s.fr y) → ∃ v sv, K sv ∧ Rv ρ sv v ∧ ∀ w', Agr s.G ρ (rdOf s o) w w' → (execOp a.eval o).run P w' = .ok (.value v) w' := fun hc hk =>
    ⟨a.eval y, _, hk, evr_ok hF y, fun w' _ => by simp [execOp, ho, hc, asBool]⟩
  unfold pkOp at hS
  split at hS
  · rename_i hc; rw [hc] at hcv; simp only [Rv] at hcv; rw [forceSV_eq] at hS; exact tt hcv hS
  · rename_i hc; rw [hc] at hcv; simp only [Rv] at hcv; rw [forceSV_eq] at hS; exact ff hcv hS
  · rename_i t hc
    rw [hc] at hcv
    simp only [Rv] at hcv
    have hb := br_ok hS
    cases t
    · simp only [Bool.false_eq_true, if_false, forceSV_eq] at hb; exact ff hcv hb
    · simp only [if_true, forceSV_eq] at hb; exact tt hcv hb
  · exact hS.no.elim

/-! ### division, shifts -/
def shrK (k : IntKind) (a : Int) (n : Nat) (K : Int → Prop) : Prop :=
  match k, n with
  | .u64, 1 => K (a / 2)
  | .u64, 7 => K (a / 128)
  | .u64, 8 => K (a / 256)
  | .u64, 16 => K (a / 65536)
  | .u64, 32 => K (a / 4294967296)
  | .i64, 63 => K (a / 9223372036854775808)
  | k, n => K (a / 2 ^ (min n k.bits))
def shlK (k : IntKind) (a : Int) (n : Nat) (K : Int → Prop) : Prop :=
  match k, n with
  | .u64, 1 => K (IntKind.u64.wrap (a * 2))
  | k, n => K (k.wrap (a * 2 ^ (min n k.bits)))
theorem shrK_eq (k : IntKind) (a : Int) (n : Nat) (K : Int → Prop) : shrK k a n K = K (a.fdiv (2 ^ (min n k.bits))) := by
  have h : a.fdiv (2 ^ (min n k.bits)) = a / 2 ^ (min n k.bits) := Int.fdiv_eq_ediv_of_nonneg _ (Int.le_of_lt (Int.pow_pos (by decide)))
  rw [h]
  unfold shrK
  split <;> rfl
theorem shlK_eq (k : IntKind) (a : Int) (n : Nat) (K : Int → Prop) : shlK k a n K = K (k.wrap (a * 2 ^ (min n k.bits))) := by
  unfold shlK
  split <;> rfl
/-- A constant divisor, or shift, that needs no condition. -/
def posC : Operand → Bool
  | .const (.int _ (.ofNat (_ + 1))) => true
  | _ => false
def natC : Operand → Option Nat
  | .const (.int _ (.ofNat n)) => some n
  | _ => none
def dvOp (o : Oper) (op : BinOp) (x y : Operand) (s : St) (K : SV → Prop) : Prop :=
  match ev s.fr x, ev s.fr y with
  | .v (.int k a), .v (.int k' b) => match op with
    | .quo => match sameKind k k', posC y with
      | true, true => K (.v (.int k (k.wrap (a.tdiv b))))
      | true, false => b ≠ 0 ∧ K (.v (.int k (k.wrap (a.tdiv b))))
      | false, _ => Bad o
    | .rem => match sameKind k k', posC y with
      | true, true => K (.v (.int k (a.tmod b)))
      | true, false => b ≠ 0 ∧ K (.v (.int k (a.tmod b)))
      | false, _ => Bad o
    | .shl => match natC y with
      | some n => shlK k a n fun r => K (.v (.int k r))
      | none => 0 ≤ b ∧ K (.v (.int k (k.wrap (a * 2 ^ (min b.toNat k.bits)))))
    | .shr => match natC y with
      | some n => shrK k a n fun r => K (.v (.int k r))
      | none => 0 ≤ b ∧ K (.v (.int k (a.fdiv (2 ^ (min b.toNat k.bits)))))
    | _ => Bad o
  | _, _ => Bad o
theorem posC_ok {y : Operand} {fr : List SV} {k : IntKind} {b : Int} (h : posC y = true) (he : ev fr y = .v (.int k b)) : b ≠ 0 := by
  unfold posC at h
  split at h
  · simp [ev, evr, nrm] at he; rw [← he.2]; simp; omega
  · simp at h
theorem natC_ok {y : Operand} {fr : List SV} {k : IntKind} {b : Int} {n : Nat} (h : natC y = some n) (he : ev fr y = .v (.int k b)) : b = (n : Int) := by
  unfold natC at h
  split at h
  · simp [ev, evr, nrm] at he; simp at h; rw [← he.2, h]
  · simp at h
theorem dv_ok {P : Program} {o : Oper} {op : BinOp} {t t' : TypeId} {x y : Operand} (ho : o.op = .binOp op t x y t') (s : St) : Qu P E o s (dvOp o op x y s) := by
  intro K a ρ w hS hA hF
  have hx := ev_ok hF x
  have hy := ev_ok hF y
  unfold dvOp at hS
  split at hS
  case h_2 => exact hS.no.elim
  rename_i k m k' n h1 h2
  rw [h1] at hx
  rw [h2] at hy
  simp only [Rv] at hx hy
  have fin : ∀ v, (∀ w, (binOp op t (.int k m) (.int k' n)).run P w = .ok v w) → K (.v v) → ∃ v sv, K sv ∧ Rv ρ sv v ∧ ∀ w', Agr s.G ρ (rdOf s o) w w' → (execOp a.eval o).run P w' = .ok (.value v) w' := by
    intro v hr hk
    refine ⟨v, _, hk, by simp [Rv], fun w' _ => ?_⟩
    simp [execOp, ho, hx, hy, run_eqGuard_int op t x y (.int k m) _ rfl, hr]
  have key : ∀ (hn : n ≠ 0) (hs : sameKind k k' = true), (∀ w, (binOp .quo t (.int k m) (.int k' n)).run P w = .ok (.int k (k.wrap (m.tdiv n))) w) ∧ (∀ w, (binOp .rem t (.int k m) (.int k' n)).run P w = .ok (.int k (m.tmod n)) w) := by
    intro hn hs
    have := sameKind_eq hs
    subst this
    exact ⟨fun w => by simp [binOp, Op.intDiv, hn], fun w => by simp [binOp, Op.intDiv, hn]⟩
  split at hS
  · split at hS
    · rename_i hs hp; exact fin _ (key (posC_ok hp h2) hs).1 hS
    · rename_i hs hp; exact fin _ (key hS.1 hs).1 hS.2
    · exact hS.no.elim
  · split at hS
    · rename_i hs hp; exact fin _ (key (posC_ok hp h2) hs).2 hS
    · rename_i hs hp; exact fin _ (key hS.1 hs).2 hS.2
    · exact hS.no.elim
  · split at hS
    · rename_i c hc
      have hn := natC_ok hc h2
      subst hn
      rw [shlK_eq] at hS
      exact fin _ (fun w => by simp [binOp, Op.shift, show ¬ (c : Int) < 0 by omega]) hS
    · exact fin _ (fun w => by simp [binOp, Op.shift, Int.not_lt.2 hS.1]) hS.2
  · split at hS
    · rename_i c hc
      have hn := natC_ok hc h2
      subst hn
      rw [shrK_eq] at hS
      exact fin _ (fun w => by simp [binOp, Op.shift, show ¬ (c : Int) < 0 by omega]) hS
    · exact fin _ (fun w => by simp [binOp, Op.shift, Int.not_lt.2 hS.1]) hS.2
  · exact hS.no.elim

/-! ### slices of slices and of strings -/
def evo (fr : List SV) : Option Operand → Option SV
  | none => none
  | some x => some (ev fr x)
def slHi (o : Oper) (hi : Option SV) (n c : Nat) (k : Nat → Prop) : Prop :=
  match hi with
  | none => k n
  | some (.v (.int _ j)) => (0 ≤ j ∧ j ≤ (c : Int)) ∧ k j.toNat
  | _ => Bad o
def slLo (o : Oper) (lo : Option SV) (h : Nat) (k : Nat → Prop) : Prop :=
  match lo with
  | none => k 0
  | some (.v (.int _ i)) => (0 ≤ i ∧ i ≤ (h : Int)) ∧ k i.toNat
  | _ => Bad o
def slOp (P : Program) (o : Oper) (t : TypeId) (x : Operand) (lo hi mx : Option Operand) (s : St) (K : SV → Prop) : Prop :=
  match mx, ev s.fr x, P.underlying t with
  | none, .v (.slice A n c), some (.slice e) => match szOf P e with
    | some sz => litN sz fun sz => slHi o (evo s.fr hi) n c fun h => slLo o (evo s.fr lo) h fun l =>
      ∀ A', A' = (if c = l then A else A.map (·.add (l * sz))) → K (.v (.slice A' (h - l) (c - l)))
    | none => Bad o
  | none, .v (.string b), some .string => slHi o (evo s.fr hi) b.size b.size fun h => slLo o (evo s.fr lo) h fun l => K (.v (.string (b.extract l h)))
  | _, _, _ => Bad o

theorem sl_run {o : Oper} {fr : List SV} {a : Act} (hF : Rvs ρ fr a.tmps.toList) {P : Program} {isSl : Bool} {lo hi : Option Operand} {n c : Nat} {k : Nat → Nat → Prop}
    (h : slHi o (evo fr hi) n c fun h => slLo o (evo fr lo) h fun l => k h l) :
    ∃ h l, (∀ w, (Instr.sliceBounds isSl n c (lo.map a.eval) (hi.map a.eval) none).run P w = .ok (l, h, c) w) ∧ k h l := by
  have hiC : ∃ h0, (∀ (w : World) (Kk : Nat → Sem (Nat × Nat × Nat)), ((match hi.map a.eval with
      | some v => Instr.sliceBound v c (if isSl then .sliceAcap else .sliceAlen)
      | none => pure n : Sem Nat) >>= Kk).run P w = (Kk h0).run P w) ∧ slLo o (evo fr lo) h0 fun l => k h0 l := by
    cases hi with
    | none => exact ⟨n, fun w Kk => by simp, h⟩
    | some x =>
      simp only [evo, slHi] at h
      have hx := ev_ok hF x
      split at h
      · rename_i he; simp at he
      · rename_i kk j he
        simp at he
        rw [he] at hx
        simp only [Rv] at hx
        exact ⟨j.toNat, fun w Kk => by simp [hx, Instr.sliceBound, asIntOf, h.1], h.2⟩
      · exact h.no.elim
  obtain ⟨h0, hr0, h⟩ := hiC
  cases lo with
  | none =>
    refine ⟨h0, 0, fun w => ?_, by simpa [evo, slLo] using h⟩
    have hr0 := hr0 w
    simp only [Instr.sliceBounds, Option.map_none, Sem.run_bind, Sem.run_pure, Result.andThen_ok] at hr0 ⊢
    cases hhi : hi.map a.eval with
    | none => simp [hhi] at hr0 ⊢; simpa using hr0 (fun h => pure (0, h, c))
    | some v => have := hr0 (fun h => pure (0, h, c)); simp [hhi] at this ⊢; exact this
  | some x =>
    simp only [evo, slLo] at h
    have hx := ev_ok hF x
    split at h
    · rename_i he; simp at he
    · rename_i kk j he
      simp at he
      rw [he] at hx
      simp only [Rv] at hx
      refine ⟨h0, j.toNat, fun w => ?_, h.2⟩
      have hr0 := hr0 w
      simp only [Instr.sliceBounds, Option.map_some, Option.map_none, Sem.run_bind, Sem.run_pure, Result.andThen_ok] at hr0 ⊢
      cases hhi : hi.map a.eval with
      | none => simp [hhi, hx] at hr0 ⊢; have := hr0 (fun h => pure (j.toNat, h, c)); simp at this; simp [this, Instr.sliceBound, asIntOf, h.1]
      | some v => have := hr0 (fun h => do let l ← Instr.sliceBound (.int kk j) h .sliceB; pure (l, h, c)); simp [hhi, hx] at this ⊢; rw [this]; simp [Instr.sliceBound, asIntOf, h.1]
    · exact h.no.elim

theorem sl_ok {P : Program} {o : Oper} {t : TypeId} {x : Operand} {lo hi mx : Option Operand} (ho : o.op = .slice t x lo hi mx) (s : St) : Qu P E o s (slOp P o t x lo hi mx s) := by
  intro K a ρ w hS hA hF
  have hx := ev_ok hF x
  unfold slOp at hS
  split at hS
  · rename_i A n c e h2 h3
    rw [h2] at hx
    simp only [Rv] at hx
    split at hS
    · rename_i sz hsz
      rw [litN_eq] at hS
      obtain ⟨h, l, hr, hk⟩ := sl_run (P := P) (isSl := true) hF hS
      refine ⟨.slice (if c = l then A else A.map (·.add (l * sz))) (h - l) (c - l), _, hk _ rfl, by simp [Rv], fun w' _ => ?_⟩
      simp [execOp, ho, Instr.sliceAt, run_underlying h3, Instr.slice, hx, hr, run_sizeOf' hsz]
    · exact hS.no.elim
  · rename_i b h2 h3
    rw [h2] at hx
    simp only [Rv] at hx
    obtain ⟨h, l, hr, hk⟩ := sl_run (P := P) (isSl := false) hF hS
    refine ⟨.string (b.extract l h), _, hk, by simp [Rv], fun w' _ => ?_⟩
    simp [execOp, ho, Instr.sliceAt, run_underlying h3, Instr.slice, hx, hr]
  · exact hS.no.elim

/-! ### elements -/
def ixOp (P : Program) (o : Oper) (t : TypeId) (x i : Operand) (s : St) (K : SV → Prop) : Prop :=
  match P.underlying t, ev s.fr x, ev s.fr i with
  | some (.slice e), .v (.slice A n c), .v (.int _ j) => match szOf P e with
    | some sz => litN sz fun sz => s.un fun _ _ G => (0 ≤ j ∧ j < (n : Int)) ∧ ∃ cs, Sl G A n c sz cs ∧ ∀ ad, Gat G ad ((cs.drop (j.toNat * sz)).take sz) → K (.v (.pointer (some ad)))
    | none => Bad o
  | some (.slice e), .s id, .v (.int _ j) => match szOf P e, nth s.H id with
    | some sz, some (.row _ _ n _) => litN sz fun sz => (0 ≤ j ∧ j < (n : Int)) ∧ K (.p id (j.toNat * sz))
    | some sz, some (.lit _ n _) => litN sz fun sz => (0 ≤ j ∧ j < (n : Int)) ∧ K (.p id (j.toNat * sz))
    | _, _ => Bad o
  | some (.array len e), .p id off, .v (.int _ j) => match szOf P e with
    | some sz => litN sz fun sz => (0 ≤ j ∧ j < (len : Int)) ∧ K (.p id (off + j.toNat * sz))
    | none => Bad o
  | _, _, _ => Bad o

theorem add_add (a : Addr) (m n : Nat) (_h : a.spot = none) : (a.add m).add n = a.add (m + n) := by
  unfold Addr.add
  by_cases hm : m = 0
  · simp [hm]
  · by_cases hn : n = 0
    · simp [hm, hn]
    · simp [hm, hn]; omega

theorem Gat.drop_ {G : Gh} {ad : Addr} {cs : List Value} (h : Gat G ad cs) (k : Nat) (hk : k < cs.length) : Gat G (ad.add k) (cs.drop k) := by
  intro j v hj
  rw [List.getElem?_drop] at hj
  have := h _ v hj
  by_cases hs : ad.spot = none
  · rw [add_add _ _ _ hs]; exact this
  · have h0 := h 0 cs[0] (by rw [List.getElem?_eq_getElem])
    simp [Addr.add, Gcell] at h0
    split at h0 <;> simp_all
theorem Gat.take_ {G : Gh} {ad : Addr} {cs : List Value} (h : Gat G ad cs) (k : Nat) : Gat G ad (cs.take k) := by
  intro j v hj
  rw [List.getElem?_take] at hj
  split at hj
  · exact h j v hj
  · simp at hj

theorem row_base (hA : Ag E ρ H G w) {id : Nat} {x : Value} {e : TypeId} {sz n : Nat} {xs : List Value} (hx : ρ[id]? = some x) (hH : H[id]? = some (.row e sz n xs)) (hn : 0 < n) :
    ∃ b c, x = .slice (some ⟨b, 0, none⟩) n c := by
  have := hA.obs _ _ x hH hx
  simp only [ObOK] at this
  rcases this.2 with ⟨_, h0⟩ | ⟨g, cap, cur, rfl, _⟩
  · omega
  · exact ⟨g, cap, rfl⟩
theorem lit_base (hA : Ag E ρ H G w) {id : Nat} {x : Value} {e : TypeId} {n : Nat} {xs : List SV} (hx : ρ[id]? = some x) (hH : H[id]? = some (.lit e n xs)) :
    ∃ b, x = .slice (some ⟨b, 0, none⟩) n n := by
  have := hA.obs _ _ x hH hx
  simp only [ObOK] at this
  obtain ⟨b, cs, rfl, _⟩ := this
  exact ⟨b, rfl⟩

theorem ix_ok {P : Program} {o : Oper} {t : TypeId} {x i : Operand} (ho : o.op = .indexAddr t x i) (s : St) : Qu P E o s (ixOp P o t x i s) := by
  intro K a ρ w hS hA hF
  have hx := ev_ok hF x
  have hi := ev_ok hF i
  unfold ixOp at hS
  split at hS
  · rename_i e A n c k j h1 h2 h3
    rw [h2] at hx
    rw [h3] at hi
    simp only [Rv] at hx hi
    split at hS
    case h_2 => exact hS.no.elim
    rename_i sz hsz
    rw [litN_eq, St.un_eq] at hS
    obtain ⟨⟨h0, hlt⟩, cs, hsl, hk⟩ := hS
    cases A with
    | none => have := (hsl.nil rfl).1; omega
    | some ad =>
      refine ⟨.pointer (some (ad.add (j.toNat * sz))), _, hk (ad.add (j.toNat * sz)) ?_, by simp [Rv], fun w' _ => ?_⟩
      rotate_left
      · have hb : 0 ≤ j ∧ j < (n : Int) := ⟨h0, hlt⟩
        simp [execOp, ho, Instr.indexAt, hi, asIntOf, run_underlying h1, hx, run_sizeOf' hsz, hb]
      · by_cases hz : sz = 0
        · subst hz; intro q v hq; simp at hq
        · refine ((hsl.there ad rfl).drop_ _ ?_).take_ _
          rw [hsl.len]
          have h1 : j.toNat + 1 ≤ n := by omega
          have := Nat.mul_le_mul_right sz h1
          rw [Nat.add_mul] at this
          omega
  · rename_i e id k j h1 h2 h3
    rw [h2] at hx
    rw [h3] at hi
    simp only [Rv] at hx hi
    have fin : ∀ sz n b c, szOf P e = some sz → a.eval x = .slice (some ⟨b, 0, none⟩) n c → (0 ≤ j ∧ j < (n : Int)) → K (.p id (j.toNat * sz)) → ∃ v sv, K sv ∧ Rv ρ sv v ∧ ∀ w', Agr s.G ρ (rdOf s o) w w' → (execOp a.eval o).run P w' = .ok (.value v) w' := by
      intro sz n b c hsz hv hb hk
      refine ⟨.pointer (some ⟨b, j.toNat * sz, none⟩), _, hk, by simp only [Rv]; exact ⟨_, b, hx, by rw [hv]; rfl, rfl⟩, fun w' _ => ?_⟩
      simp [execOp, ho, Instr.indexAt, hi, asIntOf, run_underlying h1, hv, run_sizeOf' hsz, hb, add_off]
    simp only [nth_eq] at hS
    split at hS
    · rename_i sz e' sz' n xs hsz hH
      rw [litN_eq] at hS
      obtain ⟨b, c, hv⟩ := row_base hA hx hH (by omega)
      exact fin sz n b c hsz hv hS.1 hS.2
    · rename_i sz e' n xs hsz hH
      rw [litN_eq] at hS
      obtain ⟨b, hv⟩ := lit_base hA hx hH
      exact fin sz n b n hsz hv hS.1 hS.2
    · exact hS.no.elim
  · rename_i len e id off k j h1 h2 h3
    rw [h2] at hx
    rw [h3] at hi
    simp only [Rv] at hx hi
    obtain ⟨z, b, hz, hb, hv⟩ := hx
    split at hS
    case h_2 => exact hS.no.elim
    rename_i sz hsz
    rw [litN_eq] at hS
    refine ⟨.pointer (some ⟨b, off + j.toNat * sz, none⟩), _, hS.2, by simp only [Rv]; exact ⟨_, b, hz, hb, rfl⟩, fun w' _ => ?_⟩
    have hbnd := hS.1
    simp [execOp, ho, Instr.indexAt, hi, asIntOf, run_underlying h1, hv, Instr.sureAddr, run_sizeOf' hsz, hbnd, add_off]
  · exact hS.no.elim

def isOp (P : Program) (o : Oper) (t : TypeId) (x i : Operand) (s : St) (K : SV → Prop) : Prop :=
  match P.underlying t, ev s.fr x, ev s.fr i with
  | some .string, .v (.string b), .v (.int _ j) => 0 ≤ j ∧ ∃ u, b[j.toNat]? = some u ∧ K (.v (.int .u8 u.toNat))
  | _, _, _ => Bad o
theorem is_ok {P : Program} {o : Oper} {t : TypeId} {x i : Operand} (ho : o.op = .index t x i) (s : St) : Qu P E o s (isOp P o t x i s) := by
  intro K a ρ w hS hA hF
  have hx := ev_ok hF x
  have hi := ev_ok hF i
  unfold isOp at hS
  split at hS
  case h_2 => exact hS.no.elim
  rename_i b k j h1 h2 h3
  rw [h2] at hx
  rw [h3] at hi
  simp only [Rv] at hx hi
  obtain ⟨h0, u, hu, hk⟩ := hS
  refine ⟨.int .u8 u.toNat, _, hk, by simp [Rv], fun w' _ => ?_⟩
  simp [execOp, ho, Instr.index, hi, asIntOf, run_underlying h1, hx, h0, hu]
end
end Go.SX
