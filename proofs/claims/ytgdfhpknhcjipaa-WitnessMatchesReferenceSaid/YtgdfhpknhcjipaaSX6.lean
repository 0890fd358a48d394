/- A symbolic walk: structs and slices that are built, append, min and max. -/
import Derived.Test.YtgdfhpknhcjipaaSXF
namespace Go.SX
set_option linter.unusedVariables false
set_option linter.unusedSimpArgs false
section
variable {E : Env} {ρ : List Value} {H : List Ob} {G : Gh} {w : World}

def fillS (place : Nat → Option (Nat × Nat)) (xs : List SV) : List (Nat × SV) → Option (List SV)
  | [] => some xs
  | (i, v) :: rest => match place i, cellsOf v with
    | some (off, size), some ys => match Nat.beq ys.length size, Nat.ble (off + ys.length) xs.length with
      | true, true => fillS place (xs.take off ++ ys ++ xs.drop (off + ys.length)) rest
      | _, _ => none
    | _, _ => none
def evps (fr : List SV) : List (Nat × Operand) → List (Nat × SV)
  | [] => []
  | (i, x) :: l => (i, ev fr x) :: evps fr l

theorem splice_eq (off : Nat) : ∀ (l : List Value) (k : Nat) (cs : Array Value), off + k + l.length ≤ cs.size →
    ((l.zipIdx k).foldl (fun cs (x : Value × Nat) => cs.setIfInBounds (off + x.2) x.1) cs).toList = cs.toList.take (off + k) ++ l ++ cs.toList.drop (off + k + l.length)
  | [], k, cs, _ => by simp
  | v :: l, k, cs, h => by
    simp only [List.zipIdx_cons, List.foldl_cons]
    rw [splice_eq off l (k + 1) _ (by simp at h ⊢; omega)]
    have hlt : off + k < cs.size := by simp at h; omega
    simp only [Array.toList_setIfInBounds]
    rw [List.take_set, List.drop_set_of_lt (by omega)]
    have h1 : (cs.toList.take (off + (k + 1))).set (off + k) v = cs.toList.take (off + k) ++ [v] := by
      rw [show off + (k + 1) = (off + k) + 1 by omega, List.take_succ_eq_append_getElem (by simpa using hlt)]
      rw [List.set_append_right _ _ (by simp; omega)]
      have : off + k - (cs.toList.take (off + k)).length = 0 := by simp; omega
      rw [this]; rfl
    rw [h1]
    simp only [List.append_assoc, List.singleton_append, List.length_cons]
    rw [show off + (k + 1) + l.length = off + k + (l.length + 1) by omega]

theorem fillS_ok (hA : Ag E ρ H G w) {a : Act} {fr : List SV} (hF : Rvs ρ fr a.tmps.toList) (place : Nat → Option (Nat × Nat)) : ∀ (ps : List (Nat × Operand)) (xs : List SV) (cs : Array Value) {zs : List SV},
    Rvs ρ xs cs.toList → fillS place xs (evps fr ps) = some zs → ∃ cs', Instr.fill place cs (ps.map fun p => (p.1, a.eval p.2)) = some cs' ∧ Rvs ρ zs cs'.toList
  | [], xs, cs, zs, hr, h => by
    simp [evps, fillS] at h
    subst h
    exact ⟨cs, rfl, hr⟩
  | (i, x) :: ps, xs, cs, zs, hr, h => by
    simp only [evps, fillS] at h
    split at h
    case h_2 => simp at h
    rename_i off size ys hp hc
    split at h
    case h_2 => simp at h
    rename_i h1 h2
    have h1' := Nat.eq_of_beq_eq_true h1
    have h2' := Nat.le_of_ble_eq_true h2
    have hys := cellsOf_ok hA (ev_ok hF x) hc
    have hsz : (a.eval x).cells.size = size := by have := hys.length; simp at this; omega
    have hxs : cs.size = xs.length := by simpa using hr.length
    have hyl : (a.eval x).cells.size = ys.length := by simpa using hys.length
    have hsp := splice_eq off (a.eval x).cells.toList 0 cs (by simp; omega)
    simp only [Nat.add_zero, Array.length_toList] at hsp
    have hr' : Rvs ρ (xs.take off ++ ys ++ xs.drop (off + ys.length)) (((a.eval x).cells.zipIdx.foldl (fun cs (x : Value × Nat) => cs.setIfInBounds (off + x.2) x.1) cs)).toList := by
      have e : ((a.eval x).cells.zipIdx.foldl (fun cs (x : Value × Nat) => cs.setIfInBounds (off + x.2) x.1) cs) = (((a.eval x).cells.toList.zipIdx 0).foldl (fun cs (x : Value × Nat) => cs.setIfInBounds (off + x.2) x.1) cs) := by
        rw [← Array.foldl_toList, Array.toList_zipIdx]
      rw [e, hsp, hyl]
      exact ((hr.take_ off).append hys).append (hr.drop_ (off + ys.length))
    obtain ⟨cs', hf, hz⟩ := fillS_ok hA hF place ps _ _ hr' h
    refine ⟨cs', ?_, hz⟩
    simp only [List.map_cons, Instr.fill, hp]
    rw [if_neg (by simp; omega)]
    exact hf

/-! ### structs -/
def placesOf (P : Program) : List Field → Option (List (Nat × Nat))
  | [] => some []
  | f :: fs => match szOf P f.type, placesOf P fs with
    | some n, some l => some ((f.offset, n) :: l)
    | _, _ => none
theorem run_places {P : Program} : ∀ (fs : List Field) {l : List (Nat × Nat)}, placesOf P fs = some l → (fs.mapM fun f => do pure (f.offset, ← sizeOf f.type) : Sem (List (Nat × Nat))).run P w = .ok l w
  | [], l, h => by simp [placesOf] at h; subst h; simp
  | f :: fs, l, h => by
    simp only [placesOf] at h
    split at h <;> simp at h
    rename_i n l' h1 h2
    subst h
    have ih := run_places fs h2
    simp only [List.mapM_cons, Sem.run_bind, run_sizeOf' h1, Result.andThen_ok, Sem.run_pure, ih]

def bdOp (P : Program) (o : Oper) (t : TypeId) (parts : Array (Nat × Operand)) (s : St) (K : SV → Prop) : Prop :=
  match zeroOf P t, P.underlying t with
  | some z, some (.struct fs) => match placesOf P fs.toList with
    | some pl => match fillS (fun i => nth pl i) (vs z.cells.toList) (evps s.fr parts.toList) with
      | some zs => forceL zs fun zs' => K (.agg zs')
      | none => Bad o
    | none => Bad o
  | some z, some (.array _ e) => match szOf P e with
    | some n => match fillS (fun i => some (i * n, n)) (vs z.cells.toList) (evps s.fr parts.toList) with
      | some zs => forceL zs fun zs' => K (.agg zs')
      | none => Bad o
    | none => Bad o
  | _, _ => Bad o

theorem bd_ok {P : Program} {o : Oper} {t : TypeId} {parts : Array (Nat × Operand)} (ho : o.op = .build t parts) (s : St) : Qu P E o s (bdOp P o t parts s) := by
  intro K a ρ w hS hA hF
  have hparts : (parts.map fun (i, x) => (i, a.eval x)).toList = parts.toList.map fun p => (p.1, a.eval p.2) := by simp
  unfold bdOp at hS
  split at hS
  · rename_i z fs hz hu
    split at hS
    case h_2 => exact hS.no.elim
    rename_i pl hpl
    split at hS
    case h_2 => exact hS.no.elim
    rename_i zs hf
    rw [forceL_eq] at hS
    obtain ⟨cs', hfill, hr⟩ := fillS_ok hA hF _ parts.toList _ z.cells (Rvs.of_vs _) hf
    refine ⟨.agg cs', _, hS, by simp only [Rv]; exact ⟨_, rfl, hr⟩, fun w' _ => ?_⟩
    have hp := run_places (w := w') (P := P) fs.toList hpl
    have hpm : (fs.mapM fun f => do pure (f.offset, ← sizeOf f.type) : Sem (Array (Nat × Nat))).run P w' = .ok pl.toArray w' := by
      rw [Array.mapM_eq_mapM_toList]
      simp only [Sem.run_map, hp, Result.andThen_ok]
    have hfill' : Instr.fill (fun i => pl.toArray[i]?) z.cells (parts.map fun (i, x) => (i, a.eval x)).toList = some cs' := by
      rw [hparts]
      have : (fun i => pl.toArray[i]?) = fun i => nth pl i := by funext i; simp [nth_eq]
      rw [this]; exact hfill
    simp only [execOp, ho, Instr.build, Sem.run_bind, run_zero' hz, Result.andThen_ok, run_underlying hu, hpm, hfill', Sem.run_pure]
  · rename_i z m e hz hu
    split at hS
    case h_2 => exact hS.no.elim
    rename_i n hn
    split at hS
    case h_2 => exact hS.no.elim
    rename_i zs hf
    rw [forceL_eq] at hS
    obtain ⟨cs', hfill, hr⟩ := fillS_ok hA hF _ parts.toList _ z.cells (Rvs.of_vs _) hf
    refine ⟨.agg cs', _, hS, by simp only [Rv]; exact ⟨_, rfl, hr⟩, fun w' _ => ?_⟩
    rw [← hparts] at hfill
    simp only [execOp, ho, Instr.build, Sem.run_bind, run_zero' hz, Result.andThen_ok, run_underlying hu, run_sizeOf' hn, hfill, Sem.run_pure]
  · exact hS.no.elim

/-! ### slice literals -/
def valsOf : List SV → Option (List Value)
  | [] => some []
  | .v x :: l => match valsOf l with
    | some ys => some (x :: ys)
    | none => none
  | _ => none
theorem valsOf_ok : ∀ {xs : List SV} {ys zs : List Value}, valsOf xs = some ys → Rvs ρ xs zs → zs = ys
  | [], ys, zs, h, hr => by simp [valsOf] at h; subst h; simpa [Rvs] using hr
  | .v x :: l, ys, zs, h, hr => by
    simp only [valsOf] at h
    split at h <;> simp at h
    rename_i ys' hl
    subst h
    simp only [Rvs] at hr
    obtain ⟨y, yt, rfl, h1, h2⟩ := hr
    simp only [Rv] at h1
    rw [h1, valsOf_ok hl h2]
  | .p _ _ :: _, _, _, h, _ => by simp [valsOf] at h
  | .s _ :: _, _, _, h, _ => by simp [valsOf] at h
  | .f _ _ _ :: _, _, _, h, _ => by simp [valsOf] at h
  | .agg _ :: _, _, _, h, _ => by simp [valsOf] at h
  | .tup _ :: _, _, _, h, _ => by simp [valsOf] at h
  | .lit _ :: _, _, _, h, _ => by simp [valsOf] at h
  | .dead :: _, _, _, h, _ => by simp [valsOf] at h

def bsOp (P : Program) (o : Oper) (t : TypeId) (len : Nat) (parts : Array (Nat × Operand)) (s : St) (K : SV → St → Prop) : Prop :=
  match P.underlying t with
  | some (.slice e) => match szOf P e, zeroOf P e, pos P e with
    | some sz, some _, true => match Nat.ble (len * sz) 65535, fillS (fun i => some (i * sz, sz)) (List.replicate (len * sz) .dead) (evps s.fr parts.toList) with
      | true, some zs => match valsOf zs with
        | some ys => forceL (vs ys) fun _ => pushOb s (.row e sz len ys) (fun n => .s n) K
        | none => forceL zs fun zs' => pushOb s (.lit e len zs') (fun n => .s n) K
      | _, _ => Bad o
    | _, _, _ => Bad o
  | _ => Bad o

theorem own_lit' (w : World) (e sz len : Nat) (ys : List Value) (h : ys.length = len * sz) (hm : len ≤ maxLen) :
    (w.alloc (.cells ys.toArray e)).ownsRow 0 e sz (.slice (some ⟨w.heap.size, 0, none⟩) len len) len ys :=
  ⟨h, .inr ⟨w.heap.size, len, ys.toArray, rfl, Nat.zero_le _, heap_alloc_new w _, Nat.le_refl _, hm, by simpa using h, by simp [← h]⟩⟩

theorem bs_ok {P : Program} {o : Oper} {t : TypeId} {len : Nat} {parts : Array (Nat × Operand)} (ho : o.op = .buildSlice t len parts) (s : St) : Ok P E o s (bsOp P o t len parts s) := by
  intro K next Q a ρ w hK hS hA hF
  unfold bsOp at hS
  split at hS
  case h_2 => exact hS.no.elim
  rename_i e hu
  split at hS
  case h_2 => exact hS.no.elim
  rename_i sz z hsz hz hpos
  split at hS
  case h_2 => exact hS.no.elim
  rename_i zs hle hf
  have hle' := Nat.le_of_ble_eq_true hle
  have hparts : (parts.map fun (i, x) => (i, a.eval x)).toList = parts.toList.map fun p => (p.1, a.eval p.2) := by simp
  have key : ∀ (cells0 : Array Value), cells0.size = len * sz → ∃ cs', Instr.fill (fun i => some (i * sz, sz)) cells0 (parts.map fun (i, x) => (i, a.eval x)).toList = some cs' ∧ Rvs ρ zs cs'.toList := by
    intro cells0 hc
    rw [hparts]
    refine fillS_ok hA hF _ parts.toList _ cells0 ?_ hf
    have := Rvs.dead_ (ρ := ρ) cells0.toList
    rwa [Array.length_toList, hc] at this
  obtain ⟨cs', hfill, hr⟩ := key ((Array.range (len * sz)).map ((if len * sz = 0 then #[] else z.cells)[· % (if len * sz = 0 then #[] else z.cells).size]!)) (by simp)
  have hrun : (execOp a.eval o).run P w = .ok (.value (.slice (some ⟨w.heap.size, 0, none⟩) len len)) (w.alloc (.cells cs' e)) := by
    have hbig : ¬ len * sz > 2 ^ 24 := by omega
    by_cases h0 : len * sz = 0
    · simp only [h0, if_true] at hfill
      simp only [execOp, ho, Instr.buildSlice, Sem.run_bind, run_underlying hu, Result.andThen_ok, run_sizeOf' hsz, h0, if_true, Sem.run_pure, Sem.run_ite]
      simp only [show ¬ (0 : Nat) > 2 ^ 24 by omega, if_false, Sem.run_pure, Result.andThen_ok, hfill]
      simp [newRow]
    · simp only [h0, if_false] at hfill
      simp only [execOp, ho, Instr.buildSlice, Sem.run_bind, run_underlying hu, Result.andThen_ok, run_sizeOf' hsz, h0, if_false, hbig, Sem.run_pure, Sem.run_ite, run_zero' hz, hfill]
      simp [newRow]
  have hlen : cs'.toList.length = len * sz := by
    have h1 := hr.length
    have : ∀ (ps : List (Nat × SV)) (xs : List SV) {zs : List SV}, fillS (fun i => some (i * sz, sz)) xs ps = some zs → zs.length = xs.length := by
      intro ps
      induction ps with
      | nil => intro xs zs h; simp [fillS] at h; subst h; rfl
      | cons p ps ih =>
        intro xs zs h
        obtain ⟨i, v⟩ := p
        simp only [fillS] at h
        split at h
        case h_2 => simp at h
        split at h
        case h_2 => simp at h
        rename_i h1 h2
        have := ih _ h
        have h2' := Nat.le_of_ble_eq_true h2
        rw [this]; simp; omega
    rw [h1, this _ _ hf]; simp
  split at hS
  · rename_i ys hv
    rw [forceL_eq] at hS
    unfold pushOb at hS
    rw [St.un_eq, litN_eq, forceSp_eq] at hS
    have hcs := valsOf_ok hv hr
    obtain ⟨k, hk⟩ := pos_size hpos
    rw [hsz] at hk
    simp at hk
    have hmax : len ≤ maxLen := by
      have : len * 1 ≤ len * sz := Nat.mul_le_mul_left _ (by omega)
      simp only [maxLen]; omega
    refine wp_value hrun (hK _ _ hS (ρ ++ [.slice (some ⟨w.heap.size, 0, none⟩) len len]) _ _ ?_ hF.ext ?_ (Fp.push (grown_alloc w _)))
    · refine hA.push (grown_alloc w _) (fun b hb => ?_) ?_
      · simp [blkOf] at hb; subst hb; simp
      · simp only [ObOK]
        have hcs'' : cs' = ys.toArray := by rw [← hcs]
        rw [hcs'']
        exact own_lit' w e sz len ys (by rw [← hcs]; exact hlen) hmax
    · simp only [Rv]; rw [← hA.len]; simp
  · rw [forceL_eq] at hS
    unfold pushOb at hS
    rw [St.un_eq, litN_eq, forceSp_eq] at hS
    refine wp_value hrun (hK _ _ hS (ρ ++ [.slice (some ⟨w.heap.size, 0, none⟩) len len]) _ _ ?_ hF.ext ?_ (Fp.push (grown_alloc w _)))
    · refine hA.push (grown_alloc w _) (fun b hb => ?_) ?_
      · simp [blkOf] at hb; subst hb; simp
      · simp only [ObOK]
        exact ⟨_, cs', rfl, heap_alloc_new w _, hr.ext⟩
    · simp only [Rv]; rw [← hA.len]; simp
end
end Go.SX
