/- A symbolic walk: what only computes is right. -/
import Derived.Test.YtgdfhpknhcjipaaSX3
namespace Go.SX
set_option linter.unusedVariables false
set_option linter.unusedSimpArgs false
section
variable {E : Env} {ρ : List Value} {H : List Ob} {G : Gh} {w : World}

def puOk (P : Program) (E : Env) (o : Oper) (s : St) (sv : SV) : Prop :=
  ∀ (a : Act) (ρ : List Value) (w : World), Ag E ρ s.H s.G w → Rvs ρ s.fr a.tmps.toList → ∃ v, (∀ w, (execOp a.eval o).run P w = .ok (.value v) w) ∧ Rv ρ sv v

theorem run_intBin {P : Program} {op : BinOp} {k : IntKind} {x y : Int} {v : Value} (h : intBin op k x y = some v) (t : TypeId) (w : World) : (binOp op t (.int k x) (.int k y)).run P w = .ok v w := by
  cases op <;> simp [intBin] at h <;> subst h <;> simp [binOp, Op.intArith, Op.intCmp, Op.intBits, bits]

def notNil : Value → Bool
  | .nilIface => false
  | .agg _ => false
  | _ => true
def notNum : Value → Bool
  | .int _ _ => false
  | .float _ _ => false
  | .complex _ _ _ => false
  | .string _ => false
  | _ => true

theorem run_eqGuard_int {P : Program} (op : BinOp) (t : TypeId) (x y : Operand) (a b : Value) (ha : notNil a = true) (w : World) : (eqGuard op t x y a b).run P w = .ok () w := by
  unfold eqGuard
  cases a <;> simp [notNil] at ha <;> cases op <;> simp

theorem run_equalIn {P : Program} {t : TypeId} {x y : SV} {b : Bool} (h : eqV P t x y = some b) {vx vy : Value} (hx : Rv ρ x vx) (hy : Rv ρ y vy) (d : Nat) :
    (Op.equalIn (d + 1) t vx vy).run P w = .ok b w ∧ notNil vx = true ∧ notNum vx = true := by
  unfold eqV at h
  split at h <;> simp only [Option.some.injEq, reduceCtorEq] at h <;> try subst h
  all_goals (rename_i hu; simp only [Rv] at hx hy)
  · subst hx hy; simp [Op.equalIn, run_underlying hu, notNil, notNum]
  · obtain ⟨x', b', h1, h2, rfl⟩ := hx; subst hy; simp [Op.equalIn, run_underlying hu, notNil, notNum]
  · subst hx hy
    rename_i a
    cases a <;> simp [Op.equalIn, run_underlying hu, notNil, notNum]
  · subst hx hy
    rename_i a _ _ _ _
    cases a <;> simp [Op.equalIn, run_underlying hu, notNil, notNum]
  · obtain ⟨a', c', rfl, _, _⟩ := hx; subst hy; simp [Op.equalIn, run_underlying hu, notNil, notNum]
  · subst hx hy; simp [Op.equalIn, run_underlying hu, notNil, notNum]

theorem run_eqV {P : Program} {t : TypeId} {x y : SV} {b : Bool} (h : eqV P t x y = some b) {vx vy : Value} (hx : Rv ρ x vx) (hy : Rv ρ y vy) :
    (Op.equal t vx vy).run P w = .ok b w ∧ notNil vx = true ∧ notNum vx = true :=
  run_equalIn h hx hy 9999

theorem binOp_eql {P : Program} {t : TypeId} {vx vy : Value} {b : Bool} (hn : notNum vx = true) (h : (Op.equal t vx vy).run P w = .ok b w) :
    (binOp .eql t vx vy).run P w = .ok (.bool b) w ∧ (binOp .neq t vx vy).run P w = .ok (.bool !b) w := by
  have e1 : binOp .eql t vx vy = (do pure (.bool (← Op.equal t vx vy)) : Sem Value) := by unfold binOp; cases vx <;> simp [notNum] at hn <;> rfl
  have e2 : binOp .neq t vx vy = (do pure (.bool (!(← Op.equal t vx vy))) : Sem Value) := by unfold binOp; cases vx <;> simp [notNum] at hn <;> rfl
  rw [e1, e2]
  constructor
  · rw [Sem.run_bind, h]; rfl
  · rw [Sem.run_bind, h]; rfl

theorem run_binV {P : Program} {op : BinOp} {t : TypeId} {x y : SV} {sv : SV} (h : binV P op t x y = some sv) {vx vy : Value} (hx : Rv ρ x vx) (hy : Rv ρ y vy) (ox oy : Operand) :
    ∃ v, (∀ w, (do eqGuard op t ox oy vx vy; binOp op t vx vy : Sem Value).run P w = .ok v w) ∧ Rv ρ sv v := by
  unfold binV at h
  split at h
  · split at h <;> simp at h
    subst h
    rename_i hk hi
    simp only [Rv] at hx hy
    subst hx hy
    have := sameKind_eq hk
    subst this
    refine ⟨_, fun w => ?_, by simp [Rv]; rfl⟩
    simp [run_eqGuard_int op t ox oy (.int _ _) _ rfl, run_intBin hi]
  · simp only [Rv] at hx hy
    subst hx hy
    split at h <;> simp at h <;> subst h
    · refine ⟨_, fun w => ?_, by simp [Rv]; rfl⟩
      simp [run_eqGuard_int .eql t ox oy (.string _) _ rfl, binOp, Op.stringOp]
    · refine ⟨_, fun w => ?_, by simp [Rv]; rfl⟩
      simp [run_eqGuard_int .neq t ox oy (.string _) _ rfl, binOp, Op.stringOp]
  · split at h <;> simp at h
    · rename_i b ho he
      subst h
      cases op <;> simp [isEq] at ho
      exact ⟨.bool b, fun w => by
        obtain ⟨h1, h2, h3⟩ := run_eqV (w := w) he hx hy
        rw [Sem.run_bind, run_eqGuard_int .eql t ox oy vx vy h2]; exact (binOp_eql h3 h1).1, by simp [Rv]⟩
    · rename_i b ho he
      subst h
      cases op <;> simp [isEq] at ho
      exact ⟨.bool !b, fun w => by
        obtain ⟨h1, h2, h3⟩ := run_eqV (w := w) he hx hy
        rw [Sem.run_bind, run_eqGuard_int .neq t ox oy vx vy h2]; exact (binOp_eql h3 h1).2, by simp [Rv]⟩

theorem run_convV {P : Program} {src dst : TypeId} {x : SV} {sv : SV} (h : convV P src dst x = some sv) {vx : Value} (hx : Rv ρ x vx) :
    ∃ v, (∀ w, (convert src dst vx).run P w = .ok v w) ∧ Rv ρ sv v := by
  unfold convV at h
  split at h <;> simp at h <;> subst h
  all_goals (rename_i hs hd; simp only [Rv] at hx; subst hx; refine ⟨_, fun w => ?_, by simp [Rv]; rfl⟩; simp [convert, run_underlying hs, run_underlying hd, Conv.intToInt])

theorem fldOf_run {P : Program} {S : TypeId} {f : Nat} {fd : Field} (h : fldOf P S f = some fd) : ∃ fs : Array Field, P.underlying S = some (.struct fs) ∧ fs[f]? = some fd := by
  unfold fldOf at h
  split at h
  · rename_i fs hu; exact ⟨fs, hu, by simpa [nth_eq] using h⟩
  · simp at h

theorem run_part {P : Program} {t : TypeId} (cs : Array Value) (off : Nat) (w : World) :
    (tyAgg P t = some true → ∀ n, szOf P t = some n → (part t cs off).run P w = .ok (.agg (cs.extract off (off + n))) w) ∧
    (tyAgg P t = some false → ∀ v, cs[off]? = some v → (part t cs off).run P w = .ok v w) := by
  refine ⟨fun h n hn => ?_, fun h v hv => ?_⟩
  · simp [part, run_isAgg' h, run_sizeOf' hn]
  · simp [part, run_isAgg' h, hv]

theorem run_fieldV {P : Program} {S : TypeId} {x : SV} {f : Nat} {sv : SV} (h : fieldV P S x f = some sv) {vx : Value} (hx : Rv ρ x vx) :
    ∃ v, (∀ w, (Instr.field S vx f).run P w = .ok v w) ∧ Rv ρ sv v := by
  unfold fieldV at h
  split at h
  · rename_i fd xs hf
    obtain ⟨fs, hu, hfd⟩ := fldOf_run hf
    simp only [Rv] at hx
    obtain ⟨ys, rfl, hr⟩ := hx
    split at h
    · rename_i n h1 h2
      simp at h; subst h
      refine ⟨.agg (ys.extract fd.offset (fd.offset + n)), fun w => by simp [Instr.field, run_underlying hu, hfd, asAgg, (run_part ys fd.offset w).1 h1 n h2], ?_⟩
      simp only [Rv]
      refine ⟨_, rfl, ?_⟩
      have := (hr.drop_ fd.offset).take_ n
      simpa [Array.toList_extract, List.extract_eq_take_drop] using this
    · rename_i h1
      simp only [nth_eq] at h
      obtain ⟨y, hy, hv⟩ := hr.get h
      refine ⟨y, fun w => by simp [Instr.field, run_underlying hu, hfd, asAgg, (run_part ys fd.offset w).2 h1 y (by simpa using hy)], hv⟩
    · simp at h
  · rename_i fd ys hf
    obtain ⟨fs, hu, hfd⟩ := fldOf_run hf
    simp only [Rv] at hx
    subst hx
    split at h
    · rename_i n h1 h2
      simp at h; subst h
      refine ⟨.agg (ys.extract fd.offset (fd.offset + n)), fun w => by simp [Instr.field, run_underlying hu, hfd, asAgg, (run_part ys fd.offset w).1 h1 n h2], ?_⟩
      simp only [Rv]
      refine ⟨_, rfl, ?_⟩
      have := Rvs.of_vs (ρ := ρ) ((ys.toList.drop fd.offset).take n)
      simpa [Array.toList_extract, List.extract_eq_take_drop] using this
    · rename_i h1
      simp only [nth_eq] at h
      split at h
      · rename_i y hy
        simp at h; subst h
        refine ⟨y, fun w => by simp [Instr.field, run_underlying hu, hfd, asAgg, (run_part ys fd.offset w).2 h1 y (by simpa using hy)], by simp [Rv]⟩
      · simp at h
    · simp at h
  · simp at h

theorem pos_size {P : Program} {t : TypeId} (h : pos P t = true) : ∃ n, szOf P t = some (n + 1) := by
  unfold pos at h
  split at h
  · rename_i n hn; exact ⟨n, hn⟩
  · simp at h

theorem lenV_ok (hA : Ag E ρ H G w) {x : SV} {q : Bool} {n : Int} {v : Value} (h : lenV H x = some (q, n)) (hx : Rv ρ x v) :
    (q = false ∧ ∃ a m c, v = .slice a m c ∧ n = m) ∨ (q = true ∧ ∃ b, v = .string b ∧ n = b.size) := by
  unfold lenV at h
  split at h
  · simp at h; simp only [Rv] at hx; subst hx; exact .inl ⟨h.1, _, _, _, rfl, h.2.symm⟩
  · simp at h; simp only [Rv] at hx; subst hx; exact .inr ⟨h.1, _, rfl, h.2.symm⟩
  · simp only [Rv] at hx
    simp only [nth_eq] at h
    split at h
    · rename_i hH
      simp at h
      have := hA.obs _ _ v hH hx
      simp only [ObOK] at this
      rcases this.2 with ⟨rfl, h0⟩ | ⟨g, cap, cur, rfl, _⟩
      · exact .inl ⟨h.1, _, _, _, rfl, by omega⟩
      · exact .inl ⟨h.1, _, _, _, rfl, h.2.symm⟩
    · rename_i hH
      simp at h
      have := hA.obs _ _ v hH hx
      simp only [ObOK] at this
      obtain ⟨b, cs, rfl, _⟩ := this
      exact .inl ⟨h.1, _, _, _, rfl, h.2.symm⟩
    · simp at h
  · simp at h

theorem pu_ok' {P : Program} {o : Oper} {s : St} {sv : SV} (h : puOp P o s = some sv) : puOk P E o s sv := by
  intro a ρ w hA hF
  unfold puOp at h
  split at h
  · rename_i x ho; simp at h; subst h; exact ⟨_, fun w => by simp [execOp, ho], evr_ok hF x⟩
  · rename_i x ho; simp at h; subst h; exact ⟨_, fun w => by simp [execOp, ho], evr_ok hF x⟩
  · rename_i x ho
    have hx := ev_ok hF x
    split at h <;> simp at h <;> subst h <;> rename_i he <;> rw [he] at hx
    · have hx' := hx
      simp only [Rv] at hx'
      obtain ⟨z, b, _, _, hv⟩ := hx'
      exact ⟨a.eval x, fun w => by simp [execOp, ho, hv], hx⟩
    · have hx' := hx
      simp only [Rv] at hx'
      exact ⟨a.eval x, fun w => by simp [execOp, ho, hx'], hx⟩
    · have hx' := hx
      simp only [Rv] at hx'
      obtain ⟨a', c', hv, _⟩ := hx'
      exact ⟨a.eval x, fun w => by simp [execOp, ho, hv], hx⟩
  · rename_i S x f ho
    have hx := ev_ok hF x
    split at h
    · rename_i fd i k hf he
      rw [he] at hx
      simp only [Rv] at hx
      obtain ⟨z, b, hz, hb, hv⟩ := hx
      split at h <;> simp at h
      rename_i hp
      subst h
      obtain ⟨fs, hu, hfd⟩ := fldOf_run hf
      obtain ⟨n, hn⟩ := pos_size hp
      refine ⟨.pointer (some ⟨b, k + fd.offset, none⟩), fun w => ?_, by simp only [Rv]; exact ⟨z, b, hz, hb, rfl⟩⟩
      simp [execOp, ho, hv, Instr.fieldAt, run_underlying hu, hfd, Instr.sureAddr, fieldPlace, run_sizeOf' hn, add_off]
    · rename_i fd ad hf he
      rw [he] at hx
      simp only [Rv] at hx
      split at h <;> simp at h
      rename_i hp
      subst h
      obtain ⟨fs, hu, hfd⟩ := fldOf_run hf
      obtain ⟨n, hn⟩ := pos_size hp
      refine ⟨.pointer (some (ad.add fd.offset)), fun w => ?_, by simp [Rv]⟩
      simp [execOp, ho, hx, Instr.fieldAt, run_underlying hu, hfd, Instr.sureAddr, fieldPlace, run_sizeOf' hn]
    · simp at h
  · rename_i op t x ho
    have hx := ev_ok hF x
    split at h <;> simp at h <;> subst h <;> rename_i he <;> rw [he] at hx <;> simp only [Rv] at hx
    · rename_i b; exact ⟨.bool !b, fun w => by simp [execOp, ho, hx, Op.unary], by simp [Rv]⟩
    · rename_i k n; exact ⟨.int k (k.wrap (0 - n)), fun w => by simp [execOp, ho, hx, Op.unary, Op.intArith], by simp [Rv]⟩
  · rename_i src dst x ho
    obtain ⟨v, hr, hv⟩ := run_convV h (ev_ok hF x)
    exact ⟨v, fun w => by simp [execOp, ho, hr], hv⟩
  · rename_i S x f ho
    obtain ⟨v, hr, hv⟩ := run_fieldV h (ev_ok hF x)
    exact ⟨v, fun w => by simp [execOp, ho, hr], hv⟩
  · rename_i t ix ho
    have hx := ev_ok hF t
    split at h
    · rename_i xs he
      rw [he] at hx
      simp only [Rv] at hx
      obtain ⟨ys, hv, hr⟩ := hx
      simp only [nth_eq] at h
      obtain ⟨y, hy, hrv⟩ := hr.get h
      exact ⟨y, fun w => by simp [execOp, ho, hv, Instr.extract, show ys[ix]? = some y by simpa using hy], hrv⟩
    · rename_i ys he
      rw [he] at hx
      simp only [Rv] at hx
      simp only [nth_eq] at h
      split at h <;> simp at h
      rename_i y hy
      subst h
      exact ⟨y, fun w => by simp [execOp, ho, hx, Instr.extract, show ys[ix]? = some y by simpa using hy], by simp [Rv]⟩
    · simp at h
  · rename_i fn first cap ho
    simp at h; subst h
    refine ⟨.func fn (first.map a.eval) (cap.map a.eval), fun w => by simp [execOp, ho, Instr.makeFunc], ?_⟩
    simp only [Rv]
    exact ⟨_, _, rfl, by simpa using evs_ok hF first.toList, by simpa using evs_ok hF cap.toList⟩
  · rename_i op t x y ty ho
    obtain ⟨v, hr, hv⟩ := run_binV h (ev_ok hF x) (ev_ok hF y) x y
    exact ⟨v, fun w => by simp only [execOp, ho]; rw [Sem.run_bind, hr]; rfl, hv⟩
  · rename_i args argTypes ho
    split at h
    case h_2 => simp at h
    rename_i x t hargs htys
    have hargs' : args = #[x] := by rw [← Array.toArray_toList (xs := args), hargs]
    have htys' : argTypes = #[t] := by rw [← Array.toArray_toList (xs := argTypes), htys]
    subst hargs' htys'
    split at h
    · rename_i e n hu hl
      simp at h; subst h
      have hx := ev_ok hF x
      rcases lenV_ok hA hl hx with ⟨_, a', m, c, hv, rfl⟩ | ⟨hq, _⟩
      · exact ⟨.int .i64 m, fun w => by simp [execOp, ho, resolve, invoke, builtin, hv, Builtin.len_, run_underlying hu, goInt], by simp [Rv]⟩
      · simp at hq
    · rename_i n hu hl
      simp at h; subst h
      have hx := ev_ok hF x
      rcases lenV_ok hA hl hx with ⟨hq, _⟩ | ⟨_, b, hv, rfl⟩
      · simp at hq
      · exact ⟨.int .i64 b.size, fun w => by simp [execOp, ho, resolve, invoke, builtin, hv, Builtin.len_, run_underlying hu, goInt], by simp [Rv]⟩
    · simp at h
  · simp at h
theorem pu_ok {P : Program} {o : Oper} {s : St} {sv : SV} (h : puOp P o s = some sv) : Qu P E o s fun K => K sv := by
  intro K a ρ w hS hA hF
  obtain ⟨v, hr, hv⟩ := pu_ok' h a ρ w hA hF
  exact ⟨v, sv, hS, hv, fun w' _ => hr w'⟩
end
end Go.SX
