/- SXb: SX6, SX7, SX8 in one text. -/
import Derived.Test.YtglelcgllodhoaaSXa
import Derived.Maps.AppendAt
import Derived.Laws.StructEq
import Derived.Laws.BytesArg
namespace Go.SX
set_option linter.unusedVariables false
set_option linter.unusedSimpArgs false
section
variable {E : Env} {ρ : List Value} {H : List Ob} {G : Gh} {w : World}

def fillS (place : Nat → Option (Nat × Nat)) (xs : List SV) : List (Nat × SV) → Option (List SV)
  | [] => some xs
  | (i, v) :: rest => match place i, cellsOf v with
    | some (off, size), some ys => match Nat.beq ys.length size, Nat.ble (off + ys.length) xs.length with
      | true, true => fillS place (xs.take off ++ ys ++ xs.drop (off + ys.length)) rest
      | _, _ => none
    | _, _ => none
def evps (fr : List SV) : List (Nat × Operand) → List (Nat × SV)
  | [] => []
  | (i, x) :: l => (i, ev fr x) :: evps fr l

theorem splice_eq (off : Nat) : ∀ (l : List Value) (k : Nat) (cs : Array Value), off + k + l.length ≤ cs.size →
    ((l.zipIdx k).foldl (fun cs (x : Value × Nat) => cs.setIfInBounds (off + x.2) x.1) cs).toList = cs.toList.take (off + k) ++ l ++ cs.toList.drop (off + k + l.length)
  | [], k, cs, _ => by simp
  | v :: l, k, cs, h => by
    simp only [List.zipIdx_cons, List.foldl_cons]
    rw [splice_eq off l (k + 1) _ (by simp at h ⊢; omega)]
    have hlt : off + k < cs.size := by simp at h; omega
    simp only [Array.toList_setIfInBounds]
    rw [List.take_set, List.drop_set_of_lt (by omega)]
    have h1 : (cs.toList.take (off + (k + 1))).set (off + k) v = cs.toList.take (off + k) ++ [v] := by
      rw [show off + (k + 1) = (off + k) + 1 by omega, List.take_succ_eq_append_getElem (by simpa using hlt)]
      rw [List.set_append_right _ _ (by simp; omega)]
      have : off + k - (cs.toList.take (off + k)).length = 0 := by simp; omega
      rw [this]; rfl
    rw [h1]
    simp only [List.append_assoc, List.singleton_append, List.length_cons]
    rw [show off + (k + 1) + l.length = off + k + (l.length + 1) by omega]

theorem fillS_ok (hA : Ag E ρ H G w) {a : Act} {fr : List SV} (hF : Rvs ρ fr a.tmps.toList) (place : Nat → Option (Nat × Nat)) : ∀ (ps : List (Nat × Operand)) (xs : List SV) (cs : Array Value) {zs : List SV},
    Rvs ρ xs cs.toList → fillS place xs (evps fr ps) = some zs → ∃ cs', Instr.fill place cs (ps.map fun p => (p.1, a.eval p.2)) = some cs' ∧ Rvs ρ zs cs'.toList
  | [], xs, cs, zs, hr, h => by
    simp [evps, fillS] at h
    subst h
    exact ⟨cs, rfl, hr⟩
  | (i, x) :: ps, xs, cs, zs, hr, h => by
    simp only [evps, fillS] at h
    split at h
    case h_2 => simp at h
    rename_i off size ys hp hc
    split at h
    case h_2 => simp at h
    rename_i h1 h2
    have h1' := Nat.eq_of_beq_eq_true h1
    have h2' := Nat.le_of_ble_eq_true h2
    have hys := cellsOf_ok hA (ev_ok hF x) hc
    have hsz : (a.eval x).cells.size = size := by have := hys.length; simp at this; omega
    have hxs : cs.size = xs.length := by simpa using hr.length
    have hyl : (a.eval x).cells.size = ys.length := by simpa using hys.length
    have hsp := splice_eq off (a.eval x).cells.toList 0 cs (by simp; omega)
    simp only [Nat.add_zero, Array.length_toList] at hsp
    have hr' : Rvs ρ (xs.take off ++ ys ++ xs.drop (off + ys.length)) (((a.eval x).cells.zipIdx.foldl (fun cs (x : Value × Nat) => cs.setIfInBounds (off + x.2) x.1) cs)).toList := by
      have e : ((a.eval x).cells.zipIdx.foldl (fun cs (x : Value × Nat) => cs.setIfInBounds (off + x.2) x.1) cs) = (((a.eval x).cells.toList.zipIdx 0).foldl (fun cs (x : Value × Nat) => cs.setIfInBounds (off + x.2) x.1) cs) := by
        rw [← Array.foldl_toList, Array.toList_zipIdx]
      rw [e, hsp, hyl]
      exact ((hr.take_ off).append hys).append (hr.drop_ (off + ys.length))
    obtain ⟨cs', hf, hz⟩ := fillS_ok hA hF place ps _ _ hr' h
    refine ⟨cs', ?_, hz⟩
    simp only [List.map_cons, Instr.fill, hp]
    rw [if_neg (by simp; omega)]
    exact hf

/-! ### structs -/
def placesOf (P : Program) : List Field → Option (List (Nat × Nat))
  | [] => some []
  | f :: fs => match szOf P f.type, placesOf P fs with
    | some n, some l => some ((f.offset, n) :: l)
    | _, _ => none
theorem run_places {P : Program} : ∀ (fs : List Field) {l : List (Nat × Nat)}, placesOf P fs = some l → (fs.mapM fun f => do pure (f.offset, ← sizeOf f.type) : Sem (List (Nat × Nat))).run P w = .ok l w
  | [], l, h => by simp [placesOf] at h; subst h; simp
  | f :: fs, l, h => by
    simp only [placesOf] at h
    split at h <;> simp at h
    rename_i n l' h1 h2
    subst h
    have ih := run_places fs h2
    simp only [List.mapM_cons, Sem.run_bind, run_sizeOf' h1, Result.andThen_ok, Sem.run_pure, ih]

def bdOp (P : Program) (o : Oper) (t : TypeId) (parts : Array (Nat × Operand)) (s : St) (K : SV → Prop) : Prop :=
  match zeroOf P t, P.underlying t with
  | some z, some (.struct fs) => match placesOf P fs.toList with
    | some pl => match fillS (fun i => nth pl i) (vs z.cells.toList) (evps s.fr parts.toList) with
      | some zs => forceL zs fun zs' => K (.agg zs')
      | none => Bad o
    | none => Bad o
  | some z, some (.array _ e) => match szOf P e with
    | some n => match fillS (fun i => some (i * n, n)) (vs z.cells.toList) (evps s.fr parts.toList) with
      | some zs => forceL zs fun zs' => K (.agg zs')
      | none => Bad o
    | none => Bad o
  | _, _ => Bad o

theorem bd_ok {P : Program} {o : Oper} {t : TypeId} {parts : Array (Nat × Operand)} (ho : o.op = .build t parts) (s : St) : Qu P E o s (bdOp P o t parts s) := by
  intro K a ρ w hS hA hF
  have hparts : (parts.map fun (i, x) => (i, a.eval x)).toList = parts.toList.map fun p => (p.1, a.eval p.2) := by simp
  unfold bdOp at hS
  split at hS
  · rename_i z fs hz hu
    split at hS
    case h_2 => exact hS.no.elim
    rename_i pl hpl
    split at hS
    case h_2 => exact hS.no.elim
    rename_i zs hf
    rw [forceL_eq] at hS
    obtain ⟨cs', hfill, hr⟩ := fillS_ok hA hF _ parts.toList _ z.cells (Rvs.of_vs _) hf
    refine ⟨.agg cs', _, hS, by simp only [Rv]; exact ⟨_, rfl, hr⟩, fun w' _ => ?_⟩
    have hp := run_places (w := w') (P := P) fs.toList hpl
    have hpm : (fs.mapM fun f => do pure (f.offset, ← sizeOf f.type) : Sem (Array (Nat × Nat))).run P w' = .ok pl.toArray w' := by
      rw [Array.mapM_eq_mapM_toList]
      simp only [Sem.run_map, hp, Result.andThen_ok]
    have hfill' : Instr.fill (fun i => pl.toArray[i]?) z.cells (parts.map fun (i, x) => (i, a.eval x)).toList = some cs' := by
      rw [hparts]
      have : (fun i => pl.toArray[i]?) = fun i => nth pl i := by funext i; simp [nth_eq]
      rw [this]; exact hfill
    simp only [execOp, ho, Instr.build, Sem.run_bind, run_zero' hz, Result.andThen_ok, run_underlying hu, hpm, hfill', Sem.run_pure]
  · rename_i z m e hz hu
    split at hS
    case h_2 => exact hS.no.elim
    rename_i n hn
    split at hS
    case h_2 => exact hS.no.elim
    rename_i zs hf
    rw [forceL_eq] at hS
    obtain ⟨cs', hfill, hr⟩ := fillS_ok hA hF _ parts.toList _ z.cells (Rvs.of_vs _) hf
    refine ⟨.agg cs', _, hS, by simp only [Rv]; exact ⟨_, rfl, hr⟩, fun w' _ => ?_⟩
    rw [← hparts] at hfill
    simp only [execOp, ho, Instr.build, Sem.run_bind, run_zero' hz, Result.andThen_ok, run_underlying hu, run_sizeOf' hn, hfill, Sem.run_pure]
  · exact hS.no.elim

/-! ### slice literals -/
def valsOf : List SV → Option (List Value)
  | [] => some []
  | .v x :: l => match valsOf l with
    | some ys => some (x :: ys)
    | none => none
  | _ => none
theorem valsOf_ok : ∀ {xs : List SV} {ys zs : List Value}, valsOf xs = some ys → Rvs ρ xs zs → zs = ys
  | [], ys, zs, h, hr => by simp [valsOf] at h; subst h; simpa [Rvs] using hr
  | .v x :: l, ys, zs, h, hr => by
    simp only [valsOf] at h
    split at h <;> simp at h
    rename_i ys' hl
    subst h
    simp only [Rvs] at hr
    obtain ⟨y, yt, rfl, h1, h2⟩ := hr
    simp only [Rv] at h1
    rw [h1, valsOf_ok hl h2]
  | .p _ _ :: _, _, _, h, _ => by simp [valsOf] at h
  | .s _ :: _, _, _, h, _ => by simp [valsOf] at h
  | .f _ _ _ :: _, _, _, h, _ => by simp [valsOf] at h
  | .agg _ :: _, _, _, h, _ => by simp [valsOf] at h
  | .tup _ :: _, _, _, h, _ => by simp [valsOf] at h
  | .lit _ :: _, _, _, h, _ => by simp [valsOf] at h
  | .dead :: _, _, _, h, _ => by simp [valsOf] at h

def bsOp (P : Program) (o : Oper) (t : TypeId) (len : Nat) (parts : Array (Nat × Operand)) (s : St) (K : SV → St → Prop) : Prop :=
  match P.underlying t with
  | some (.slice e) => match szOf P e, zeroOf P e, pos P e with
    | some sz, some _, true => match Nat.ble (len * sz) 65535, fillS (fun i => some (i * sz, sz)) (List.replicate (len * sz) .dead) (evps s.fr parts.toList) with
      | true, some zs => match valsOf zs with
        | some ys => forceL (vs ys) fun _ => pushOb s (.row e sz len ys) (fun n => .s n) K
        | none => forceL zs fun zs' => pushOb s (.lit e len zs') (fun n => .s n) K
      | _, _ => Bad o
    | _, _, _ => Bad o
  | _ => Bad o

theorem own_lit' (w : World) (e sz len : Nat) (ys : List Value) (h : ys.length = len * sz) (hm : len ≤ maxLen) :
    (w.alloc (.cells ys.toArray e)).ownsRow 0 e sz (.slice (some ⟨w.heap.size, 0, none⟩) len len) len ys :=
  ⟨h, .inr ⟨w.heap.size, len, ys.toArray, rfl, Nat.zero_le _, heap_alloc_new w _, Nat.le_refl _, hm, by simpa using h, by simp [← h]⟩⟩

theorem bs_ok {P : Program} {o : Oper} {t : TypeId} {len : Nat} {parts : Array (Nat × Operand)} (ho : o.op = .buildSlice t len parts) (s : St) : Ok P E o s (bsOp P o t len parts s) := by
  intro K next Q a ρ w hK hS hA hF
  unfold bsOp at hS
  split at hS
  case h_2 => exact hS.no.elim
  rename_i e hu
  split at hS
  case h_2 => exact hS.no.elim
  rename_i sz z hsz hz hpos
  split at hS
  case h_2 => exact hS.no.elim
  rename_i zs hle hf
  have hle' := Nat.le_of_ble_eq_true hle
  have hparts : (parts.map fun (i, x) => (i, a.eval x)).toList = parts.toList.map fun p => (p.1, a.eval p.2) := by simp
  have key : ∀ (cells0 : Array Value), cells0.size = len * sz → ∃ cs', Instr.fill (fun i => some (i * sz, sz)) cells0 (parts.map fun (i, x) => (i, a.eval x)).toList = some cs' ∧ Rvs ρ zs cs'.toList := by
    intro cells0 hc
    rw [hparts]
    refine fillS_ok hA hF _ parts.toList _ cells0 ?_ hf
    have := Rvs.dead_ (ρ := ρ) cells0.toList
    rwa [Array.length_toList, hc] at this
  obtain ⟨cs', hfill, hr⟩ := key ((Array.range (len * sz)).map ((if len * sz = 0 then #[] else z.cells)[· % (if len * sz = 0 then #[] else z.cells).size]!)) (by simp)
  have hrun : (execOp a.eval o).run P w = .ok (.value (.slice (some ⟨w.heap.size, 0, none⟩) len len)) (w.alloc (.cells cs' e)) := by
    have hbig : ¬ len * sz > 2 ^ 24 := by omega
    by_cases h0 : len * sz = 0
    · simp only [h0, if_true] at hfill
      simp only [execOp, ho, Instr.buildSlice, Sem.run_bind, run_underlying hu, Result.andThen_ok, run_sizeOf' hsz, h0, if_true, Sem.run_pure, Sem.run_ite]
      simp only [show ¬ (0 : Nat) > 2 ^ 24 by omega, if_false, Sem.run_pure, Result.andThen_ok, hfill]
      simp [newRow]
    · simp only [h0, if_false] at hfill
      simp only [execOp, ho, Instr.buildSlice, Sem.run_bind, run_underlying hu, Result.andThen_ok, run_sizeOf' hsz, h0, if_false, hbig, Sem.run_pure, Sem.run_ite, run_zero' hz, hfill]
      simp [newRow]
  have hlen : cs'.toList.length = len * sz := by
    have h1 := hr.length
    have : ∀ (ps : List (Nat × SV)) (xs : List SV) {zs : List SV}, fillS (fun i => some (i * sz, sz)) xs ps = some zs → zs.length = xs.length := by
      intro ps
      induction ps with
      | nil => intro xs zs h; simp [fillS] at h; subst h; rfl
      | cons p ps ih =>
        intro xs zs h
        obtain ⟨i, v⟩ := p
        simp only [fillS] at h
        split at h
        case h_2 => simp at h
        split at h
        case h_2 => simp at h
        rename_i h1 h2
        have := ih _ h
        have h2' := Nat.le_of_ble_eq_true h2
        rw [this]; simp; omega
    rw [h1, this _ _ hf]; simp
  split at hS
  · rename_i ys hv
    rw [forceL_eq] at hS
    unfold pushOb at hS
    rw [St.un_eq, litN_eq, forceSp_eq] at hS
    have hcs := valsOf_ok hv hr
    obtain ⟨k, hk⟩ := pos_size hpos
    rw [hsz] at hk
    simp at hk
    have hmax : len ≤ maxLen := by
      have : len * 1 ≤ len * sz := Nat.mul_le_mul_left _ (by omega)
      simp only [maxLen]; omega
    refine wp_value hrun (hK _ _ hS (ρ ++ [.slice (some ⟨w.heap.size, 0, none⟩) len len]) _ _ ?_ hF.ext ?_ (Fp.push (grown_alloc w _)))
    · refine hA.push (grown_alloc w _) (fun b hb => ?_) ?_
      · simp [blkOf] at hb; subst hb; simp
      · simp only [ObOK]
        have hcs'' : cs' = ys.toArray := by rw [← hcs]
        rw [hcs'']
        exact own_lit' w e sz len ys (by rw [← hcs]; exact hlen) hmax
    · simp only [Rv]; rw [← hA.len]; simp
  · rw [forceL_eq] at hS
    unfold pushOb at hS
    rw [St.un_eq, litN_eq, forceSp_eq] at hS
    refine wp_value hrun (hK _ _ hS (ρ ++ [.slice (some ⟨w.heap.size, 0, none⟩) len len]) _ _ ?_ hF.ext ?_ (Fp.push (grown_alloc w _)))
    · refine hA.push (grown_alloc w _) (fun b hb => ?_) ?_
      · simp [blkOf] at hb; subst hb; simp
      · simp only [ObOK]
        exact ⟨_, cs', rfl, heap_alloc_new w _, hr.ext⟩
    · simp only [Rv]; rw [← hA.len]; simp
end
end Go.SX

namespace Go.SX
set_option linter.unusedVariables false
set_option linter.unusedSimpArgs false
section
variable {E : Env} {ρ : List Value} {H : List Ob} {G : Gh} {w : World}

def infoOf (P : Program) (t : TypeId) : Option (Nat × Nat × Value) :=
  match P.info? t with
  | some i => match i.zero with
    | some z => some (i.size, i.bytes, z)
    | none => none
  | none => none
theorem infoOf_ok {P : Program} {t : TypeId} {sz by_ : Nat} {z : Value} (h : infoOf P t = some (sz, by_, z)) : ∃ i, P.info? t = some i ∧ i.size = sz ∧ i.bytes = by_ ∧ i.zero = some z := by
  unfold infoOf at h
  split at h
  · rename_i i hi
    split at h <;> simp at h
    rename_i z' hz
    obtain ⟨h1, h2, h3⟩ := h
    exact ⟨i, hi, h1, h2, by rw [hz, h3]⟩
  · simp at h

/-- The end of an append: the object has grown. -/
def apEnd (s : St) (i : Nat) (e sz n m bytes : Nat) (xs news : List Value) (K : SV → St → Prop) : Prop :=
  (n + m) * bytes ≤ 140737488355328 ∧ s.un fun fr H G => forceL (kills i fr) fun fr' => forceSp ((H.map (·.kill i)).set i (.row e sz (n + m) (xs ++ news))) fun H' => K (.s i) ⟨fr', H', G⟩

/-- An append of one element that holds a slice of its own: that slice is done. -/
def apLit (s : St) (e sz bytes j m : Nat) (zs : List SV) (x : Option Nat) (o : Oper) (K : SV → St → Prop) : Prop :=
  match idsS zs with
  | [k] => match nth s.H k, Nat.beq j k with
    | some (.row _ szk nk ys), false => (∀ v ∈ ys, v.oneCell' = true) ∧ ∀ A c G', Ghe s.G G' → Sl G' A nk c szk ys → Knw s.G G' A ys →
        match valsOf (fzs k (.slice A nk c) zs) with
        | some news => match Nat.beq news.length (m * sz), allOne (vs news) with
          | true, true => s.un fun fr H _ => forceL (fzs k (.slice A nk c) fr) fun fr' => forceObs ((obfz k (.slice A nk c) H).set k .gone) fun H' => forceSp news fun news' =>
            match x with
            | some i => match Nat.beq i k, nth H' i with
              | false, some (.row e' sz' n xs) => match Nat.beq e' e, Nat.beq sz' sz with
                | true, true => apEnd ⟨fr', H', G'⟩ i e sz n m bytes xs news' K
                | _, _ => Bad o
              | _, _ => Bad o
            | none => m * bytes ≤ 140737488355328 ∧ pushOb ⟨fr', H', G'⟩ (.row e sz m news') (fun i => .s i) K
          | _, _ => Bad o
        | none => Bad o
    | _, _ => Bad o
  | _ => Bad o

def apOp (P : Program) (o : Oper) (t : TypeId) (x y : Operand) (s : St) (K : SV → St → Prop) : Prop :=
  match P.underlying t with
  | some (.slice e) => match infoOf P e, pos P e with
    | some (sz, bytes, z), true => match Nat.beq z.cells.size sz, Nat.ble 1 bytes with
      | true, true => match ev s.fr x, ev s.fr y with
        | .s i, .v (.slice A m c) => match nth s.H i with
          | some (.row e' sz' n xs) => match Nat.beq e' e, Nat.beq sz' sz with
            | true, true => ∃ news, Sl s.G A m c sz news ∧ apEnd s i e sz n m bytes xs news K
            | _, _ => Bad o
          | _ => Bad o
        | .v (.slice none 0 0), .v (.slice A m c) => ∃ news, Sl s.G A m c sz news ∧ m * bytes ≤ 140737488355328 ∧ pushOb s (.row e sz m news) (fun i => .s i) K
        | .v (.slice none 0 0), .s j => match nth s.H j with
          | some (.row _ sz2 m news) => match Nat.beq sz2 sz with
            | true => (∀ v ∈ news, v.oneCell' = true) ∧ m * bytes ≤ 140737488355328 ∧ pushOb s (.row e sz m news) (fun i => .s i) K
            | false => Bad o
          | some (.lit _ m zs) => apLit s e sz bytes j m zs none o K
          | _ => Bad o
        | .s i, .s j => match nth s.H i, nth s.H j, Nat.beq i j with
          | some (.row e' sz' n xs), some (.row _ sz2 m news), false => match Nat.beq e' e, Nat.beq sz' sz, Nat.beq sz2 sz with
            | true, true, true => (∀ v ∈ news, v.oneCell' = true) ∧ apEnd s i e sz n m bytes xs news K
            | _, _, _ => Bad o
          | some (.row _ _ _ _), some (.lit _ m zs), _ => apLit s e sz bytes j m zs (some i) o K
          | _, _, _ => Bad o
        | _, _ => Bad o
      | _, _ => Bad o
    | _, _ => Bad o
  | _ => Bad o

theorem ap_end {P : Program} {o : Oper} {t : TypeId} {x y : Operand} {a : Act} (ho : o.op = .call { callee := .builtin .append, args := #[x, y], argTypes := #[t, t] })
    {s : St} {K : SV → St → Prop} {next : Act → World → Prop} {Q : Exit → Act → World → Prop} {T : List Nat}
    (hK : ∀ sv s', K sv s' → ∀ ρ' v w', Ag E ρ' s'.H s'.G w' → Rvs ρ' s'.fr a.tmps.toList → Rv ρ' sv v → Fp ρ ρ' s.G s'.G T w w' → next (a.put o.dst v) w')
    (hA : Ag E ρ s.H s.G w) (hF : Rvs ρ s.fr a.tmps.toList) {e sz bytes n m i : Nat} {z v yv : Value} {xs news : List Value} (hu : P.underlying t = some (.slice e)) (hinfo : infoOf P e = some (sz, bytes, z)) (hsz : 0 < sz) (hz : z.cells.size = sz) (hb : 1 ≤ bytes)
    (hiT : i ∈ T) (hxv : a.eval x = v) (hyv : a.eval y = yv) (hρ : ρ[i]? = some v) (hH : s.H[i]? = some (.row e sz n xs))
    (hy : (∃ ad c, yv = .slice (some ad) m c ∧ news.length = m * sz ∧ (∀ j u, news[j]? = some u → w.cell? (ad.add j) = some u) ∧ ∀ u ∈ news, u.oneCell' = true) ∨ (yv = .slice none 0 0 ∧ m = 0 ∧ news = []))
    (h : apEnd s i e sz n m bytes xs news K) : o.wp P a w next Q := by
  obtain ⟨info, hi, rfl, rfl, hz0⟩ := infoOf_ok hinfo
  obtain ⟨hbytes, hk⟩ := h
  rw [St.un_eq, forceL_eq, forceSp_eq] at hk
  have hown := hA.obs i _ v hH hρ
  simp only [ObOK] at hown
  have hblk : blkOf v = v.ownBlock := by
    rcases hown.2 with ⟨rfl, _⟩ | ⟨g, cap, cur, rfl, _⟩ <;> rfl
  have h63 : n + m ≤ maxLen := by
    have : (n + m) * 1 ≤ (n + m) * info.bytes := Nat.mul_le_mul_left _ hb
    simp only [maxLen]; omega
  have done : ∀ v' w', (Builtin.append_ #[t, t] o.type #[v, yv]).run P w = .ok v' w' → w'.ownsRow 0 e info.size v' (n + m) (xs ++ news) → w.grownBy w' v.ownBlock →
      (∀ b, blkOf v' = some b → b < w'.heap.size ∧ (blkOf v = some b ∨ w.heap.size ≤ b)) → o.wp P a w next Q := by
    intro v' w' hr ho' hg hbk
    refine wp_value (w' := w') (v := v') (by simp [execOp, ho, resolve, invoke, builtin, hxv, hyv, hr]) ?_
    refine hK _ _ hk (ρ.set i v') _ _ ?_ hF.kill_ ?_ (Fp.set_ hg (fun b' hb' => ⟨i, hiT, v, hρ, by rw [hblk]; exact hb'⟩) hiT)
    · refine hA.change hρ (fun ad e => by subst e; rcases hown.2 with ⟨h0, _⟩ | ⟨g, cap, cur, h0, _⟩ <;> simp at h0) (by rw [hblk]; exact hg) ?_ hbk
      simp only [ObOK]; exact ho'
    · simp only [Rv]; rw [List.getElem?_set_self (List.getElem?_eq_some_iff.1 hρ).1]
  rcases hy with ⟨ad, c, rfl, hl, hc, h1⟩ | ⟨rfl, rfl, rfl⟩
  · obtain ⟨v', w', hr, ho', hg, hnil, hat⟩ := run_append_own_at (P := P) w 0 t o.type e info z info.size info.bytes hu hi hz0 rfl rfl hz hsz v n xs hown ad m c news hl hc h1 h63 hbytes (Nat.zero_le _)
    refine done v' w' hr ho' hg fun b hb' => ?_
    have hb2 : v'.ownBlock = some b := by
      rcases ho'.2 with ⟨rfl, _⟩ | ⟨g, cap, cur, rfl, _⟩
      · simp [blkOf] at hb'
      · simpa [blkOf, Value.ownBlock] using hb'
    refine ⟨(ho'.lt b hb2).2, ?_⟩
    rcases hat with h1' | h1'
    · left; rw [hblk, ← h1', hb2]
    · right; rw [hb2] at h1'; simp at h1'; omega
  · have hr := run_append_owned_none (P := P) (w := w) 0 t o.type e info info.size hu hi v n xs hown
    refine done v w hr (by simpa using hown) ⟨rfl, rfl, rfl, Nat.le_refl _, fun _ _ _ => rfl⟩ fun b hb' => ⟨(hA.own i v b hρ hb').1, .inl hb'⟩
theorem ap_nil {P : Program} {o : Oper} {t : TypeId} {x y : Operand} {a : Act} (ho : o.op = .call { callee := .builtin .append, args := #[x, y], argTypes := #[t, t] })
    {s : St} {K : SV → St → Prop} {next : Act → World → Prop} {Q : Exit → Act → World → Prop} {T : List Nat}
    (hK : ∀ sv s', K sv s' → ∀ ρ' v w', Ag E ρ' s'.H s'.G w' → Rvs ρ' s'.fr a.tmps.toList → Rv ρ' sv v → Fp ρ ρ' s.G s'.G T w w' → next (a.put o.dst v) w')
    (hA : Ag E ρ s.H s.G w) (hF : Rvs ρ s.fr a.tmps.toList) {e sz bytes m : Nat} {z yv : Value} {news : List Value} (hu : P.underlying t = some (.slice e)) (hinfo : infoOf P e = some (sz, bytes, z)) (hsz : 0 < sz) (hz : z.cells.size = sz) (hb : 1 ≤ bytes)
    (hxv : a.eval x = .slice none 0 0) (hyv : a.eval y = yv)
    (hy : (∃ ad c, yv = .slice (some ad) m c ∧ news.length = m * sz ∧ (∀ j u, news[j]? = some u → w.cell? (ad.add j) = some u) ∧ ∀ u ∈ news, u.oneCell' = true) ∨ (yv = .slice none 0 0 ∧ m = 0 ∧ news = []))
    (hbytes : m * bytes ≤ 140737488355328) (h : pushOb s (.row e sz m news) (fun i => .s i) K) : o.wp P a w next Q := by
  obtain ⟨info, hi, rfl, rfl, hz0⟩ := infoOf_ok hinfo
  unfold pushOb at h
  rw [St.un_eq, litN_eq, forceSp_eq] at h
  have hown : w.ownsRow 0 e info.size (.slice none 0 0) 0 [] := World.ownsRow_nil _ _ _ _
  have h63 : 0 + m ≤ maxLen := by
    have : m * 1 ≤ m * info.bytes := Nat.mul_le_mul_left _ hb
    simp only [maxLen]; omega
  have done : ∀ v' w', (Builtin.append_ #[t, t] o.type #[.slice none 0 0, yv]).run P w = .ok v' w' → w'.ownsRow 0 e info.size v' m news → w.grownBy w' none →
      (∀ b, blkOf v' = some b → w.heap.size ≤ b ∧ b < w'.heap.size) → o.wp P a w next Q := by
    intro v' w' hr ho' hg hbk
    refine wp_value (w' := w') (v := v') (by simp [execOp, ho, resolve, invoke, builtin, hxv, hyv, hr]) ?_
    refine hK _ _ h (ρ ++ [v']) _ _ (hA.push hg hbk ?_) hF.ext ?_ (Fp.push hg)
    · simp only [ObOK]; exact ho'
    · simp only [Rv]; rw [← hA.len]; simp
  rcases hy with ⟨ad, c, rfl, hl, hc, h1⟩ | ⟨rfl, rfl, rfl⟩
  · obtain ⟨v', w', hr, ho', hg, hnil, hat⟩ := run_append_own_at (P := P) w 0 t o.type e info z info.size info.bytes hu hi hz0 rfl rfl hz hsz _ 0 [] hown ad m c news hl hc h1 h63 (by simpa using hbytes) (Nat.zero_le _)
    simp only [Nat.zero_add, List.nil_append] at ho'
    refine done v' w' hr ho' hg fun b hb' => ?_
    have hb2 : v'.ownBlock = some b := by
      rcases ho'.2 with ⟨rfl, _⟩ | ⟨g, cap, cur, rfl, _⟩
      · simp [blkOf] at hb'
      · simpa [blkOf, Value.ownBlock] using hb'
    refine ⟨?_, (ho'.lt b hb2).2⟩
    rcases hat with h1' | h1'
    · rw [hb2] at h1'; simp [Value.ownBlock] at h1'
    · rw [hb2] at h1'; simp at h1'; omega
  · have hr := run_append_owned_none (P := P) (w := w) 0 t o.type e info info.size hu hi _ 0 [] hown
    exact done _ w hr hown ⟨rfl, rfl, rfl, Nat.le_refl _, fun _ _ _ => rfl⟩ fun b hb' => by simp [blkOf] at hb'

theorem pos_lt {P : Program} {t : TypeId} {sz bytes : Nat} {z : Value} (h : pos P t = true) (hi : infoOf P t = some (sz, bytes, z)) : 0 < sz := by
  obtain ⟨i, h1, h2, _⟩ := infoOf_ok hi
  obtain ⟨n, hn⟩ := pos_size h
  simp [szOf, h1] at hn
  omega

theorem beq_ff {a b : Nat} (h : Nat.beq a b = false) : a ≠ b := fun e => by subst e; simp at h
theorem apLit_ok {P : Program} {o : Oper} {t : TypeId} {x y : Operand} {a : Act} (ho : o.op = .call { callee := .builtin .append, args := #[x, y], argTypes := #[t, t] })
    {s : St} {K : SV → St → Prop} {next : Act → World → Prop} {Q : Exit → Act → World → Prop}
    (hK : ∀ sv s', K sv s' → ∀ ρ' v w', Ag E ρ' s'.H s'.G w' → Rvs ρ' s'.fr a.tmps.toList → Rv ρ' sv v → Fp ρ ρ' s.G s'.G (tcOf s o) w w' → next (a.put o.dst v) w')
    (hA : Ag E ρ s.H s.G w) (hF : Rvs ρ s.fr a.tmps.toList) {e sz bytes : Nat} {z : Value} (hu : P.underlying t = some (.slice e)) (hinfo : infoOf P e = some (sz, bytes, z)) (hsz : 0 < sz) (hz : z.cells.size = sz) (hb : 1 ≤ bytes)
    {j m e2 : Nat} {zs : List SV} (hy : ev s.fr y = .s j) (hH : s.H[j]? = some (.lit e2 m zs)) (xo : Option Nat) (hx : ev s.fr x = match xo with | some i => .s i | none => .v (.slice none 0 0))
    (h : apLit s e sz bytes j m zs xo o K) : o.wp P a w next Q := by
  unfold apLit at h
  split at h
  case h_2 => exact h.no.elim
  rename_i k hids
  simp only [nth_eq] at h
  split at h
  case h_2 => exact h.no.elim
  rename_i ek szk nk ys hHk hjk
  have hjk' := beq_ff hjk
  obtain ⟨h1, h2⟩ := h
  obtain ⟨A, c, G', hρ, hg, hfr, hwh, hsl, hA'⟩ := hA.done5 hHk h1
  have h := h2 A c G' hg hsl ⟨hfr, hwh⟩
  clear h2
  split at h
  case h_2 => exact h.no.elim
  rename_i news hvals
  split at h
  case h_2 => exact h.no.elim
  rename_i hl hones
  have hl' := Nat.eq_of_beq_eq_true hl
  simp only [St.un_eq, forceL_eq, forceObs_eq, forceSp_eq] at h
  rw [← obfz_eq] at hA'
  have hF' : Rvs (ρ.set k .nilFunc) (fzs k (.slice A nk c) s.fr) a.tmps.toList := hF.fz_ hρ _
  have hkT : k ∈ tcOf s o := by
    simp only [tcOf, ho, apT, hy, nth_eq, hH, hids]
    split <;> simp
  have hyv := ev_ok hF y
  rw [hy] at hyv
  simp only [Rv] at hyv
  have hyv' : (ρ.set k .nilFunc)[j]? = some (a.eval y) := by rw [List.getElem?_set_ne (fun e => hjk' e.symm)]; exact hyv
  have hHj : ((obfz k (.slice A nk c) s.H).set k .gone)[j]? = some (.lit e2 m (fzs k (.slice A nk c) zs)) := by
    rw [List.getElem?_set_ne (fun e => hjk' e.symm), obfz_eq, List.getElem?_map, hH]; rfl
  have hob := hA'.obs j _ _ hHj hyv'
  simp only [ObOK] at hob
  obtain ⟨b, cs, hyeq, hblk, hrv⟩ := hob
  have hcs := valsOf_ok hvals hrv
  have hone : ∀ u ∈ news, u.oneCell' = true := allOne_ok hA' (Rvs.of_vs news) hones
  have hnews : (∃ ad c, a.eval y = .slice (some ad) m c ∧ news.length = m * sz ∧ (∀ j u, news[j]? = some u → w.cell? (ad.add j) = some u) ∧ ∀ u ∈ news, u.oneCell' = true) ∨ (a.eval y = .slice none 0 0 ∧ m = 0 ∧ news = []) := by
    refine .inl ⟨⟨b, 0, none⟩, m, hyeq, hl', fun i u hi => ?_, hone⟩
    rw [add_off, Nat.zero_add, cell_at hblk]
    rw [← hcs] at hi
    simpa using hi
  have hK' : ∀ (T : List Nat), (∀ i ∈ T, i ∈ tcOf s o) → ∀ sv s', K sv s' → ∀ ρ' v w', Ag E ρ' s'.H s'.G w' → Rvs ρ' s'.fr a.tmps.toList → Rv ρ' sv v → Fp (ρ.set k .nilFunc) ρ' G' s'.G T w w' → next (a.put o.dst v) w' :=
    fun T hT sv s' hk ρ' v w' ha hf hr hfp => hK sv s' hk ρ' v w' ha hf hr (hfp.frz hkT hT hg)
  cases xo with
  | some i =>
    simp only at h hx
    split at h
    case h_2 => exact h.no.elim
    rename_i e' sz' n xs hik hHi
    split at h
    case h_2 => exact h.no.elim
    rename_i he hs'
    have he' := Nat.eq_of_beq_eq_true he
    have hs'' := Nat.eq_of_beq_eq_true hs'
    subst he' hs''
    have hik' := beq_ff hik
    have hxv := ev_ok hF x
    rw [hx] at hxv
    simp only [Rv] at hxv
    refine ap_end (s := ⟨fzs k (.slice A nk c) s.fr, (obfz k (.slice A nk c) s.H).set k .gone, G'⟩) (T := [i]) ho (hK' [i] ?_) hA' hF' hu hinfo hsz hz hb (by simp) rfl rfl ?_ hHi hnews h
    · intro q hq
      simp at hq; subst hq
      simp [tcOf, ho, hx]
    · rw [List.getElem?_set_ne (fun e => hik' e.symm)]; exact hxv
  | none =>
    simp only at h hx
    have hxv := ev_ok hF x
    rw [hx] at hxv
    simp only [Rv] at hxv
    exact ap_nil (s := ⟨fzs k (.slice A nk c) s.fr, (obfz k (.slice A nk c) s.H).set k .gone, G'⟩) (T := []) ho (hK' [] (by simp)) hA' hF' hu hinfo hsz hz hb hxv rfl hnews h.1 h.2

theorem ap_ok {P : Program} {o : Oper} {t : TypeId} {x y : Operand} (ho : o.op = .call { callee := .builtin .append, args := #[x, y], argTypes := #[t, t] }) (s : St) : Ok P E o s (apOp P o t x y s) := by
  intro K next Q a ρ w hK hS hA hF
  have hx := ev_ok hF x
  have hy := ev_ok hF y
  unfold apOp at hS
  split at hS
  case h_2 => exact hS.no.elim
  rename_i e hu
  split at hS
  case h_2 => exact hS.no.elim
  rename_i sz bytes z hinfo hpos
  split at hS
  case h_2 => exact hS.no.elim
  rename_i hz hb
  have hz' := Nat.eq_of_beq_eq_true hz
  have hb' := Nat.le_of_ble_eq_true hb
  have hsz := pos_lt hpos hinfo
  split at hS
  · rename_i i A m c h1 h2
    rw [h1] at hx
    rw [h2] at hy
    simp only [Rv] at hx hy
    simp only [nth_eq] at hS
    split at hS
    case h_2 => exact hS.no.elim
    rename_i e' sz' n xs hH
    split at hS
    case h_2 => exact hS.no.elim
    rename_i he hs'
    have he' := Nat.eq_of_beq_eq_true he
    have hs'' := Nat.eq_of_beq_eq_true hs'
    subst he' hs''
    obtain ⟨news, hsl, hend⟩ := hS
    refine ap_end ho hK hA hF hu hinfo hsz hz' hb' (by simp [tcOf, ho, h1]) rfl hy hx hH ?_ hend
    cases A with
    | none =>
      obtain ⟨rfl, rfl⟩ := hsl.nil rfl
      exact .inr ⟨rfl, rfl, List.eq_nil_of_length_eq_zero (by simpa using hsl.len)⟩
    | some ad => exact .inl ⟨ad, c, rfl, hsl.len, fun j u hj => hA.cell (hsl.there ad rfl j u hj), hsl.ones⟩
  · rename_i A m c h1 h2
    rw [h1] at hx
    rw [h2] at hy
    simp only [Rv] at hx hy
    obtain ⟨news, hsl, hby, hend⟩ := hS
    refine ap_nil ho hK hA hF hu hinfo hsz hz' hb' hx hy ?_ hby hend
    cases A with
    | none =>
      obtain ⟨rfl, rfl⟩ := hsl.nil rfl
      exact .inr ⟨rfl, rfl, List.eq_nil_of_length_eq_zero (by simpa using hsl.len)⟩
    | some ad => exact .inl ⟨ad, c, rfl, hsl.len, fun j u hj => hA.cell (hsl.there ad rfl j u hj), hsl.ones⟩
  · rename_i j h1 h2
    rw [h1] at hx
    rw [h2] at hy
    simp only [Rv] at hx hy
    simp only [nth_eq] at hS
    split at hS
    case h_2 => rename_i hH2; exact apLit_ok ho hK hA hF hu hinfo hsz hz' hb' h2 hH2 none h1 hS
    case h_3 => exact hS.no.elim
    rename_i e2 sz2 m news hH2
    split at hS
    case h_2 => exact hS.no.elim
    rename_i hs2
    have hs3 := Nat.eq_of_beq_eq_true hs2
    subst hs3
    obtain ⟨h1c, hby, hend⟩ := hS
    refine ap_nil ho hK hA hF hu hinfo hsz hz' hb' hx rfl ?_ hby hend
    have hob := hA.obs j _ _ hH2 hy
    simp only [ObOK] at hob
    rcases hob.2 with ⟨h0, h0'⟩ | ⟨g, cap, cur, h0, _⟩
    · subst h0'
      exact .inr ⟨h0, rfl, List.eq_nil_of_length_eq_zero (by simpa using hob.1)⟩
    · exact .inl ⟨⟨g, 0, none⟩, cap, h0, hob.1, hob.cells (by rw [h0]; rfl), h1c⟩
  · rename_i i j h1 h2
    rw [h1] at hx
    rw [h2] at hy
    simp only [Rv] at hx hy
    simp only [nth_eq] at hS
    split at hS
    case h_2 => rename_i hHa hHb; exact apLit_ok ho hK hA hF hu hinfo hsz hz' hb' h2 hHb (some i) h1 hS
    case h_3 => exact hS.no.elim
    rename_i e' sz' n xs e2 sz2 m news hH hH2 hij
    split at hS
    case h_2 => exact hS.no.elim
    rename_i he hs' hs2
    have he' := Nat.eq_of_beq_eq_true he
    have hs'' := Nat.eq_of_beq_eq_true hs'
    have hs3 := Nat.eq_of_beq_eq_true hs2
    subst he' hs'' hs3
    obtain ⟨h1c, hend⟩ := hS
    refine ap_end ho hK hA hF hu hinfo hsz hz' hb' (by simp [tcOf, ho, h1]) rfl rfl hx hH ?_ hend
    have hob := hA.obs j _ _ hH2 hy
    simp only [ObOK] at hob
    rcases hob.2 with ⟨h0, h0'⟩ | ⟨g, cap, cur, h0, _⟩
    · subst h0'
      exact .inr ⟨h0, rfl, List.eq_nil_of_length_eq_zero (by simpa using hob.1)⟩
    · refine .inl ⟨⟨g, 0, none⟩, cap, h0, hob.1, hob.cells (by rw [h0]; rfl), h1c⟩
  · exact hS.no.elim

/-! ### make -/
def mkOp (P : Program) (o : Oper) (t : TypeId) (x y : Operand) (s : St) (K : SV → St → Prop) : Prop :=
  match P.underlying t with
  | some (.slice e) => match infoOf P e with
    | some (1, bytes, z) => match ev s.fr x, ev s.fr y, one (.v z), Nat.ble 1 bytes with
      | .v (.int _ n), .v (.int _ n'), true, true => litN bytes fun bytes => n' = n ∧ (0 ≤ n ∧ n * bytes ≤ 281474976710656) ∧ pushOb s (.row e 1 n.toNat (List.replicate n.toNat z)) (fun i => .s i) K
      | _, _, _, _ => Bad o
    | some (sz, bytes, z) => match ev s.fr x, ev s.fr y, Nat.beq z.cells.size sz, Nat.ble 1 bytes with
      | .v (.int _ n), .v (.int _ n'), true, true => litN bytes fun bytes => n' = n ∧ (0 ≤ n ∧ n * bytes ≤ 281474976710656) ∧ pushOb s (.row e sz n.toNat (madeCells z.cells (n.toNat * sz)).toList) (fun i => .s i) K
      | _, _, _, _ => Bad o
    | _ => Bad o
  | _ => Bad o
theorem mk_ok {P : Program} {o : Oper} {t : TypeId} {x y : Operand} (ho : o.op = .makeSlice t x y) (s : St) : Ok P E o s (mkOp P o t x y s) := by
  intro K next Q a ρ w hK hS hA hF
  have hx := ev_ok hF x
  have hy := ev_ok hF y
  unfold mkOp at hS
  split at hS
  case h_2 => exact hS.no.elim
  rename_i e hu
  split at hS
  case h_3 => exact hS.no.elim
  case h_2 =>
    rename_i sz bytes z hne hinfo
    obtain ⟨i, hi, hs, rfl, hz⟩ := infoOf_ok hinfo
    split at hS
    case h_2 => exact hS.no.elim
    rename_i k n k' n' h1 h2 hz1 hb1
    rw [h1] at hx
    rw [h2] at hy
    simp only [Rv] at hx hy
    rw [litN_eq] at hS
    obtain ⟨rfl, ⟨h0, hle⟩, hS⟩ := hS
    have hb1 := Nat.le_of_ble_eq_true hb1
    unfold pushOb at hS
    rw [St.un_eq, litN_eq, forceSp_eq] at hS
    have h63 : n' ≤ 9223372036854775807 := by
      have : n' * 1 ≤ n' * (i.bytes : Int) := Int.mul_le_mul_of_nonneg_left (by omega) h0
      omega
    have hr := run_make (P := P) w t e i z hu hi hz k k' n' n' h0 (Int.le_refl _) (by rw [Int.mul_comm]; exact hle) h63
    refine wp_value (w' := w.alloc (.cells (madeCells z.cells (n'.toNat * i.size)) e)) (v := .slice (some ⟨w.heap.size, 0, none⟩) n'.toNat n'.toNat) (by simp [execOp, ho, hx, hy, hr]) ?_
    refine hK _ _ hS (ρ ++ [.slice (some ⟨w.heap.size, 0, none⟩) n'.toNat n'.toNat]) _ _ ?_ hF.ext ?_ (Fp.push (grown_alloc w _))
    · refine hA.push (grown_alloc w _) (fun b hb => ?_) ?_
      · simp [blkOf] at hb; subst hb; simp
      · simp only [ObOK]
        have := own_lit' w e sz n'.toNat (madeCells z.cells (n'.toNat * sz)).toList (by simp [size_madeCells]) (by simp only [maxLen]; omega)
        rw [hs]
        simpa using this
    · simp only [Rv]; rw [← hA.len]; simp
  rename_i bytes z hinfo
  obtain ⟨i, hi, hs, rfl, hz⟩ := infoOf_ok hinfo
  split at hS
  case h_2 => exact hS.no.elim
  rename_i k n k' n' h1 h2 hz1 hb1
  rw [h1] at hx
  rw [h2] at hy
  simp only [Rv] at hx hy
  rw [litN_eq] at hS
  obtain ⟨rfl, ⟨h0, hle⟩, hS⟩ := hS
  have hb1 := Nat.le_of_ble_eq_true hb1
  have hzc : z.cells = #[z] := by cases z <;> simp_all [one, Value.cells]
  unfold pushOb at hS
  rw [St.un_eq, litN_eq, forceSp_eq] at hS
  have h63 : n' ≤ 9223372036854775807 := by
    have : n' * 1 ≤ n' * (i.bytes : Int) := Int.mul_le_mul_of_nonneg_left (by omega) h0
    omega
  have hr := run_make (P := P) w t e i z hu hi hz k k' n' n' h0 (Int.le_refl _) (by rw [Int.mul_comm]; exact hle) h63
  have hm : (madeCells z.cells (n'.toNat * i.size)).toList = List.replicate n'.toNat z := by
    rw [hs, hzc]
    apply List.ext_getElem
    · simp [madeCells]
    · intro j h1 h2
      simp [madeCells, Nat.mod_one]
  refine wp_value (w' := w.alloc (.cells (madeCells z.cells (n'.toNat * i.size)) e)) (v := .slice (some ⟨w.heap.size, 0, none⟩) n'.toNat n'.toNat) (by simp [execOp, ho, hx, hy, hr]) ?_
  refine hK _ _ hS (ρ ++ [.slice (some ⟨w.heap.size, 0, none⟩) n'.toNat n'.toNat]) _ _ ?_ hF.ext ?_ (Fp.push (grown_alloc w _))
  · refine hA.push (grown_alloc w _) (fun b hb => ?_) ?_
    · simp [blkOf] at hb; subst hb; simp
    · simp only [ObOK]
      have := own_lit' w e 1 n'.toNat (List.replicate n'.toNat z) (by simp) (by simp only [maxLen]; omega)
      rw [← hm] at this ⊢
      simpa using this
  · simp only [Rv]; rw [← hA.len]; simp

/-! ### min, max -/
def mmOp (o : Oper) (mx : Bool) (x y : Operand) (s : St) (K : SV → Prop) : Prop :=
  match ev s.fr x, ev s.fr y with
  | .v (.int k a), .v (.int _ b) => match mx with
    | true => K (.v (.int k (if b > a then b else a)))
    | false => K (.v (.int k (if b < a then b else a)))
  | _, _ => Bad o
theorem min_ok {P : Program} {o : Oper} {x y : Operand} {ts : Array TypeId} (ho : o.op = .call { callee := .builtin .min, args := #[x, y], argTypes := ts }) (s : St) : Qu P E o s (mmOp o false x y s) := by
  intro K a ρ w hS hA hF
  have hx := ev_ok hF x
  have hy := ev_ok hF y
  unfold mmOp at hS
  split at hS
  case h_2 => exact hS.no.elim
  rename_i k p k' q h1 h2
  rw [h1] at hx
  rw [h2] at hy
  simp only [Rv] at hx hy
  exact ⟨.int k (if q < p then q else p), _, hS, by simp [Rv], fun w' _ => by simp [execOp, ho, resolve, invoke, builtin, hx, hy, Builtin.min_, Builtin.min2]⟩
theorem max_ok {P : Program} {o : Oper} {x y : Operand} {ts : Array TypeId} (ho : o.op = .call { callee := .builtin .max, args := #[x, y], argTypes := ts }) (s : St) : Qu P E o s (mmOp o true x y s) := by
  intro K a ρ w hS hA hF
  have hx := ev_ok hF x
  have hy := ev_ok hF y
  unfold mmOp at hS
  split at hS
  case h_2 => exact hS.no.elim
  rename_i k p k' q h1 h2
  rw [h1] at hx
  rw [h2] at hy
  simp only [Rv] at hx hy
  exact ⟨.int k (if q > p then q else p), _, hS, by simp [Rv], fun w' _ => by simp [execOp, ho, resolve, invoke, builtin, hx, hy, Builtin.max_, Builtin.max2]⟩
end
end Go.SX

namespace Go.SX
set_option linter.unusedVariables false
set_option linter.unusedSimpArgs false
section
variable {E : Env} {ρ : List Value} {H : List Ob} {G : Gh} {w : World}

/-- What a call must come to: the objects that it changes, its result and the state behind it. -/
structure CallVC (P : Program) (E : Env) (f : FuncId) (args : List SV) (s : St) (K : List Nat → SV → St → Prop) : Prop where
  enters : ∀ (args : Array Value) (w : World), (callFunc f args).run P w = .ok (.enter f args) w
  calls : ∀ ρ w ys, Ag E ρ s.H s.G w → Rvs ρ args ys → Calls P f ys.toArray w fun e w' => (∃ v T sv s' ρ', e = .returned v ∧ K T sv s' ∧ Ag E ρ' s'.H s'.G w' ∧ Rv ρ' sv v ∧
    (∀ zs, Rvs ρ s.fr zs → Rvs ρ' s'.fr zs) ∧ Fp ρ ρ' s.G s'.G T w w') ∨ ∃ x H' G' ρ', e = .panicked [{ v := x, recovered := false }] ∧ E.Pan x H' G' ∧ Ag E ρ' H' G' w'

/-! ### structs of integers that are compared -/
/-- The cells at the same places, with the same kinds. -/
def zipI : List SV → List SV → Option (List Int × List Int)
  | [], [] => some ([], [])
  | .v (.int k a) :: xs, .v (.int k' b) :: ys => match sameKind k k', zipI xs ys with
    | true, some (l, m) => some (a :: l, b :: m)
    | _, _ => none
  | _, _ => none
def flatS : SV → Option (List SV)
  | .agg xs => some xs
  | .v (.agg ys) => some (vs ys.toList)
  | _ => none
def intFs (P : Program) : List Field → Nat → Bool
  | [], _ => true
  | f :: fs, o => !(f.name == "_") && Nat.beq f.offset o && (match P.underlying f.type with | some (.int _) => true | _ => false) && intFs P fs (o + 1)
def seChk (P : Program) (t : TypeId) (n : Nat) : Bool :=
  match P.underlying t with
  | some (.struct fs) => !P.stoodInHeld t && !P.eqGuardType P.depth t && Nat.beq fs.size n && intFs P fs.toList 0
  | _ => false
/-- The same for structs of bools. -/
def zipB : List SV → List SV → Option (List Bool × List Bool)
  | [], [] => some ([], [])
  | .v (.bool a) :: xs, .v (.bool b) :: ys => match zipB xs ys with
    | some (l, m) => some (a :: l, b :: m)
    | none => none
  | _, _ => none
def boolFs (P : Program) : List Field → Nat → Bool
  | [], _ => true
  | f :: fs, o => !(f.name == "_") && Nat.beq f.offset o && (match P.underlying f.type with | some .bool => true | _ => false) && boolFs P fs (o + 1)
def sbChk (P : Program) (t : TypeId) (n : Nat) : Bool :=
  match P.underlying t with
  | some (.struct fs) => !P.stoodInHeld t && !P.eqGuardType P.depth t && Nat.beq fs.size n && boolFs P fs.toList 0
  | _ => false
/-- Something that is to be computed once. -/
structure ChkVC (b : Bool) (A : Prop) : Prop where
  ok : b = true
  nxt : A
theorem chk {b : Bool} {A : Prop} (h : b = true) (ha : A) : ChkVC b A := ⟨h, ha⟩
def seOp (P : Program) (o : Oper) (q : Bool) (t : TypeId) (x y : Operand) (s : St) (K : SV → Prop) : Prop :=
  match flatS (ev s.fr x), flatS (ev s.fr y) with
  | some xs, some ys => match zipI xs ys with
    | some (l, m) => ChkVC (seChk P t l.length) (forceSp l fun l' => forceSp m fun m' => match q with
      | true => K (.v (.bool (decide (l' = m'))))
      | false => K (.v (.bool !(decide (l' = m')))))
    | none => match zipB xs ys with
      | some (l, m) => ChkVC (sbChk P t l.length) (forceSp l fun l' => forceSp m fun m' => match q with
        | true => K (.v (.bool (decide (l' = m'))))
        | false => K (.v (.bool !(decide (l' = m')))))
      | none => Bad o
  | _, _ => Bad o
theorem flatS_ok {x : SV} {xs : List SV} {v : Value} (h : flatS x = some xs) (hv : Rv ρ x v) : ∃ ys, v = .agg ys ∧ Rvs ρ xs ys.toList := by
  unfold flatS at h
  split at h <;> simp at h <;> subst h
  · simp only [Rv] at hv; exact hv
  · simp only [Rv] at hv; subst hv; exact ⟨_, rfl, Rvs.of_vs _⟩
theorem part_int {P : Program} {t : TypeId} {k : IntKind} (hu : P.underlying t = some (.int k)) (cs : Array Value) (off : Nat) (v : Value) (h : cs[off]? = some v) (w : World) : (part t cs off).run P w = .ok v w :=
  (run_part cs off w).2 (by simp [tyAgg, hu]) v h
theorem run_eqFs {P : Program} (d : Nat) (cs ds : Array Value) (w : World) : ∀ (fs : List Field) (o : Nat) (xs ys : List SV) {l m : List Int}, intFs P fs o = true → fs.length = l.length → zipI xs ys = some (l, m) →
    Rvs ρ xs (cs.toList.drop o) → Rvs ρ ys (ds.toList.drop o) → (Op.eqFields (d + 1) cs ds fs).run P w = .ok (decide (l = m)) w
  | [], o, xs, ys, l, m, _, hl, hz, _, _ => by
    cases l with
    | nil =>
      have : m = [] := by
        unfold zipI at hz
        split at hz
        · simp at hz; exact hz
        · split at hz <;> simp at hz
        · simp at hz
      subst this; simp [Op.eqFields]
    | cons a l => simp at hl
  | f :: fs, o, xs, ys, l, m, hf, hl, hz, hx, hy => by
    unfold zipI at hz
    split at hz
    · simp at hz; obtain ⟨rfl, rfl⟩ := hz; simp at hl
    · rename_i k a xs k' b ys
      split at hz <;> simp at hz
      rename_i l0 m0 hk hz0
      obtain ⟨rfl, rfl⟩ := hz
      have := sameKind_eq hk
      subst this
      simp only [intFs, Bool.and_eq_true, Bool.not_eq_true'] at hf
      obtain ⟨⟨⟨hn, ho⟩, hu⟩, hfs⟩ := hf
      have ho := Nat.eq_of_beq_eq_true ho
      subst ho
      obtain ⟨k', hu⟩ : ∃ k', P.underlying f.type = some (.int k') := by
        split at hu
        · rename_i k' h; exact ⟨k', h⟩
        · simp at hu
      simp only [Rvs, Rv] at hx hy
      obtain ⟨y1, t1, he1, rfl, hx⟩ := hx
      obtain ⟨y2, t2, he2, rfl, hy⟩ := hy
      have g : ∀ {L : List Value} {n : Nat} {v : Value} {t : List Value}, L.drop n = v :: t → L[n]? = some v ∧ L.drop (n + 1) = t := by
        intro L n v t h
        refine ⟨?_, ?_⟩
        · have := congrArg (fun l : List Value => l[0]?) h
          simpa using this
        · have := congrArg (List.drop 1) h
          simpa using this
      obtain ⟨g1, g1'⟩ := g he1
      obtain ⟨g2, g2'⟩ := g he2
      have hn' : f.name ≠ "_" := by simpa using hn
      have p1 := part_int hu cs f.offset _ (by simpa using g1) w
      have p2 := part_int hu ds f.offset _ (by simpa using g2) w
      have he := run_equalIn_int (P := P) w d f.type k k' a b hu
      have ih := run_eqFs d cs ds w fs (f.offset + 1) xs ys hfs (by simpa using hl) hz0 (by rw [g1']; exact hx) (by rw [g2']; exact hy)
      rw [Op.eqFields]
      simp only [if_pos hn', Sem.run_bind, p1, p2, he, Result.andThen_ok]
      by_cases hab : a = b
      · subst hab
        simp only [beq_self_eq_true, Bool.not_true, Bool.false_eq_true, if_false, ih]
        simp
      · have : (a == b) = false := by simpa using hab
        simp [this, hab]
    · simp at hz
theorem part_bool {P : Program} {t : TypeId} (hu : P.underlying t = some .bool) (cs : Array Value) (off : Nat) (v : Value) (h : cs[off]? = some v) (w : World) : (part t cs off).run P w = .ok v w :=
  (run_part cs off w).2 (by simp [tyAgg, hu]) v h
theorem run_eqFsB {P : Program} (d : Nat) (cs ds : Array Value) (w : World) : ∀ (fs : List Field) (o : Nat) (xs ys : List SV) {l m : List Bool}, boolFs P fs o = true → fs.length = l.length → zipB xs ys = some (l, m) →
    Rvs ρ xs (cs.toList.drop o) → Rvs ρ ys (ds.toList.drop o) → (Op.eqFields (d + 1) cs ds fs).run P w = .ok (decide (l = m)) w
  | [], o, xs, ys, l, m, _, hl, hz, _, _ => by
    cases l with
    | nil =>
      have : m = [] := by
        unfold zipB at hz
        split at hz
        · simp at hz; exact hz
        · split at hz <;> simp at hz
        · simp at hz
      subst this; simp [Op.eqFields]
    | cons a l => simp at hl
  | f :: fs, o, xs, ys, l, m, hf, hl, hz, hx, hy => by
    unfold zipB at hz
    split at hz
    · simp at hz; obtain ⟨rfl, rfl⟩ := hz; simp at hl
    · rename_i a xs b ys
      split at hz <;> simp at hz
      rename_i l0 m0 hz0
      obtain ⟨rfl, rfl⟩ := hz
      simp only [boolFs, Bool.and_eq_true, Bool.not_eq_true'] at hf
      obtain ⟨⟨⟨hn, ho⟩, hu⟩, hfs⟩ := hf
      have ho := Nat.eq_of_beq_eq_true ho
      subst ho
      have hu : P.underlying f.type = some .bool := by
        split at hu
        · rename_i h; exact h
        · simp at hu
      simp only [Rvs, Rv] at hx hy
      obtain ⟨y1, t1, he1, rfl, hx⟩ := hx
      obtain ⟨y2, t2, he2, rfl, hy⟩ := hy
      have g : ∀ {L : List Value} {n : Nat} {v : Value} {t : List Value}, L.drop n = v :: t → L[n]? = some v ∧ L.drop (n + 1) = t := by
        intro L n v t h
        refine ⟨?_, ?_⟩
        · have := congrArg (fun l : List Value => l[0]?) h
          simpa using this
        · have := congrArg (List.drop 1) h
          simpa using this
      obtain ⟨g1, g1'⟩ := g he1
      obtain ⟨g2, g2'⟩ := g he2
      have hn' : f.name ≠ "_" := by simpa using hn
      have p1 := part_bool hu cs f.offset _ (by simpa using g1) w
      have p2 := part_bool hu ds f.offset _ (by simpa using g2) w
      have he := run_equalIn_bool' (P := P) w d f.type a b hu
      have ih := run_eqFsB d cs ds w fs (f.offset + 1) xs ys hfs (by simpa using hl) hz0 (by rw [g1']; exact hx) (by rw [g2']; exact hy)
      rw [Op.eqFields]
      simp only [if_pos hn', Sem.run_bind, p1, p2, he, Result.andThen_ok]
      by_cases hab : a = b
      · subst hab
        simp only [beq_self_eq_true, Bool.not_true, Bool.false_eq_true, if_false, ih]
        simp
      · have : (a == b) = false := by simpa using hab
        simp [this, hab]
    · simp at hz
theorem run_eqGuard_struct {P : Program} (op : BinOp) (q : Bool) (hop : isEq op = some q) (t : TypeId) (x y : Operand) (xs : Array Value) (b : Value) (hg : P.eqGuardType P.depth t = false) (w : World) : (eqGuard op t x y (.agg xs) b).run P w = .ok () w := by
  unfold eqGuard
  cases op <;> simp [isEq] at hop <;> cases b <;> simp [hg, run_program]
theorem se_ok {P : Program} {o : Oper} {op : BinOp} {q : Bool} {t t' : TypeId} {x y : Operand} (ho : o.op = .binOp op t x y t') (hop : isEq op = some q) (s : St) : Qu P E o s (seOp P o q t x y s) := by
  intro K a ρ w hS hA hF
  have hx := ev_ok hF x
  have hy := ev_ok hF y
  unfold seOp at hS
  split at hS
  case h_2 => exact hS.no.elim
  rename_i xs ys h1 h2
  obtain ⟨cs, hc, hr1⟩ := flatS_ok h1 hx
  obtain ⟨ds, hd, hr2⟩ := flatS_ok h2 hy
  split at hS
  case h_2 =>
    split at hS
    case h_2 => exact hS.no.elim
    rename_i l m hz
    obtain ⟨hchk, hS⟩ := hS
    rw [forceSp_eq, forceSp_eq] at hS
    unfold sbChk at hchk
    split at hchk
    case h_2 => simp at hchk
    rename_i fs hu
    simp only [Bool.and_eq_true, Bool.not_eq_true'] at hchk
    obtain ⟨⟨⟨hst, hgd⟩, hsz⟩, hfs⟩ := hchk
    have hsz := Nat.eq_of_beq_eq_true hsz
    have hff : P.fieldsOf t = fs := by simp [Program.fieldsOf, hu]
    have heq : ∀ w, (Op.equal t (.agg cs) (.agg ds)).run P w = .ok (decide (l = m)) w := by
      intro w
      show (Op.equalIn (9999 + 1) t (.agg cs) (.agg ds)).run P w = _
      rw [run_equalIn_struct w 9999 t cs ds (by rw [hff]; exact hu) hst, hff]
      exact run_eqFsB 9998 cs ds w fs.toList 0 xs ys hfs (by simpa using hsz) hz (by simpa using hr1) (by simpa using hr2)
    have hb := fun w => binOp_eql (P := P) (w := w) (t := t) (vx := .agg cs) (vy := .agg ds) rfl (heq w)
    have hguard := fun w => run_eqGuard_struct op q hop t x y cs (.agg ds) hgd w
    cases q with
    | true =>
      cases op <;> simp [isEq] at hop
      exact ⟨.bool (decide (l = m)), _, hS, by simp only [Rv], fun w' _ => by simp [execOp, ho, hc, hd, hguard, (hb w').1]⟩
    | false =>
      cases op <;> simp [isEq] at hop
      exact ⟨.bool !(decide (l = m)), _, hS, by simp only [Rv], fun w' _ => by simp [execOp, ho, hc, hd, hguard, (hb w').2]⟩
  rename_i l m hz
  obtain ⟨hchk, hS⟩ := hS
  rw [forceSp_eq, forceSp_eq] at hS
  unfold seChk at hchk
  split at hchk
  case h_2 => simp at hchk
  rename_i fs hu
  simp only [Bool.and_eq_true, Bool.not_eq_true'] at hchk
  obtain ⟨⟨⟨hst, hgd⟩, hsz⟩, hfs⟩ := hchk
  have hsz := Nat.eq_of_beq_eq_true hsz
  have hff : P.fieldsOf t = fs := by simp [Program.fieldsOf, hu]
  have heq : ∀ w, (Op.equal t (.agg cs) (.agg ds)).run P w = .ok (decide (l = m)) w := by
    intro w
    show (Op.equalIn (9999 + 1) t (.agg cs) (.agg ds)).run P w = _
    rw [run_equalIn_struct w 9999 t cs ds (by rw [hff]; exact hu) hst, hff]
    exact run_eqFs 9998 cs ds w fs.toList 0 xs ys hfs (by simpa using hsz) hz (by simpa using hr1) (by simpa using hr2)
  have hb := fun w => binOp_eql (P := P) (w := w) (t := t) (vx := .agg cs) (vy := .agg ds) rfl (heq w)
  have hguard := fun w => run_eqGuard_struct op q hop t x y cs (.agg ds) hgd w
  cases q with
  | true =>
    cases op <;> simp [isEq] at hop
    exact ⟨.bool (decide (l = m)), _, hS, by simp only [Rv], fun w' _ => by simp [execOp, ho, hc, hd, hguard, (hb w').1]⟩
  | false =>
    cases op <;> simp [isEq] at hop
    exact ⟨.bool !(decide (l = m)), _, hS, by simp only [Rv], fun w' _ => by simp [execOp, ho, hc, hd, hguard, (hb w').2]⟩
/-! ### a slice of bytes as a string -/
def cvOp (P : Program) (o : Oper) (src dst : TypeId) (x : Operand) (s : St) (K : SV → Prop) : Prop :=
  match P.underlying src, P.underlying dst, ev s.fr x with
  | some (.slice e), some .string, .v (.slice A n c) => match P.underlying e with
    | some (.int .u8) => ∃ l : List Int, l.length = n ∧ Sl s.G A n c 1 (l.map (Value.int .u8)) ∧ K (.v (.string (strOfNums l)))
    | _ => Bad o
  | _, _, _ => Bad o
theorem cv_ok {P : Program} {o : Oper} {src dst : TypeId} {x : Operand} (ho : o.op = .convert src dst x) (s : St) : Qu P E o s (cvOp P o src dst x s) := by
  intro K a ρ w hS hA hF
  have hx := ev_ok hF x
  unfold cvOp at hS
  split at hS
  case h_2 => exact hS.no.elim
  rename_i e A n c h1 h2 h3
  split at hS
  case h_2 => exact hS.no.elim
  rename_i he
  rw [h3] at hx
  simp only [Rv] at hx
  obtain ⟨l, hl, hsl, hK⟩ := hS
  refine ⟨.string (strOfNums l), _, hK, by simp only [Rv], fun w' hg => ?_⟩
  have hrun : (convert src dst (.slice A n c)).run P w' = .ok (.string (strOfNums l)) w' := by
    rw [run_convert_bytes_string w' src dst e A n c h1 he h2]
    cases A with
    | none =>
      obtain ⟨rfl, _⟩ := hsl.nil rfl
      have : l = [] := List.eq_nil_of_length_eq_zero hl
      subst this
      simp [Conv.bytesToString]
      rfl
    | some ad =>
      have hc := run_loadCells_list (P := P) w' ad (l.map (Value.int .u8)) (fun j v hj => Gcell_agr hA hg (hsl.there ad rfl j v hj))
      rw [List.length_map, hl] at hc
      rw [run_bytesToString w' ad n c l hc, foldl_push_bytes]
      simp [strOfNums, ByteArray.empty, ByteArray.emptyWithCapacity]
      rfl
  simp [execOp, ho, hx, hrun]

/-- An interface value is compared with the literal nil. -/
def nilCmp (P : Program) (t : TypeId) (x : SV) (y : Operand) : Option Bool :=
  match P.underlying t, x, y with
  | some (.interface _), .v (.iface _ _), .const .nilIface => some false
  | some (.interface _), .v .nilIface, .const .nilIface => some true
  | _, _, _ => none
theorem nilCmp_ok {P : Program} {o : Oper} {op : BinOp} {q b : Bool} {t t' : TypeId} {x y : Operand} (ho : o.op = .binOp op t x y t') (hop : isEq op = some q) {s : St} (h : nilCmp P t (ev s.fr x) y = some b) {a : Act} (hF : Rvs ρ s.fr a.tmps.toList) (w : World) :
    (execOp a.eval o).run P w = .ok (.value (.bool (if q then b else !b))) w := by
  have hx := ev_ok hF x
  unfold nilCmp at h
  split at h <;> simp at h <;> subst h <;> rename_i hu he <;> rw [he] at hx <;> simp only [Rv] at hx
  · have hd : ∀ d, (Op.equalIn (d + 1) t (a.eval x) .nilIface).run P w = .ok false w := fun d => by
      rw [hx]
      simp [Op.equalIn, run_underlying hu]
    have heq : (Op.equal t (a.eval x) .nilIface).run P w = .ok false w := hd 9999
    have hb := binOp_eql (P := P) (w := w) (t := t) (vx := a.eval x) (vy := .nilIface) (by rw [hx]; rfl) heq
    have hg : ∀ op, (eqGuard op t x (.const .nilIface) (a.eval x) .nilIface).run P w = .ok () w := by
      intro op
      rw [hx]; unfold eqGuard; cases op <;> simp
    cases op <;> simp [isEq] at hop <;> subst hop
    · have hr : (do eqGuard .eql t x (.const .nilIface) (a.eval x) .nilIface; binOp .eql t (a.eval x) .nilIface : Sem Value).run P w = .ok (.bool false) w := by
        rw [Sem.run_bind, hg]; exact hb.1
      simp only [execOp, ho]
      rw [Sem.run_bind]
      exact congrArg (fun r : Result Value => r.andThen fun a w' => Sem.run P (pure (Next.value a)) w') hr
    · have hr : (do eqGuard .neq t x (.const .nilIface) (a.eval x) .nilIface; binOp .neq t (a.eval x) .nilIface : Sem Value).run P w = .ok (.bool true) w := by
        rw [Sem.run_bind, hg]; exact hb.2
      simp only [execOp, ho]
      rw [Sem.run_bind]
      exact congrArg (fun r : Result Value => r.andThen fun a w' => Sem.run P (pure (Next.value a)) w') hr
  · have hd : ∀ d, (Op.equalIn (d + 1) t (a.eval x) .nilIface).run P w = .ok true w := fun d => by
      rw [hx]
      simp [Op.equalIn, run_underlying hu]
    have heq : (Op.equal t (a.eval x) .nilIface).run P w = .ok true w := hd 9999
    have hb := binOp_eql (P := P) (w := w) (t := t) (vx := a.eval x) (vy := .nilIface) (by rw [hx]; rfl) heq
    have hg : ∀ op, (eqGuard op t x (.const .nilIface) (a.eval x) .nilIface).run P w = .ok () w := by
      intro op
      rw [hx]; unfold eqGuard; cases op <;> simp
    cases op <;> simp [isEq] at hop <;> subst hop
    · have hr : (do eqGuard .eql t x (.const .nilIface) (a.eval x) .nilIface; binOp .eql t (a.eval x) .nilIface : Sem Value).run P w = .ok (.bool true) w := by
        rw [Sem.run_bind, hg]; exact hb.1
      simp only [execOp, ho]
      rw [Sem.run_bind]
      exact congrArg (fun r : Result Value => r.andThen fun a w' => Sem.run P (pure (Next.value a)) w') hr
    · have hr : (do eqGuard .neq t x (.const .nilIface) (a.eval x) .nilIface; binOp .neq t (a.eval x) .nilIface : Sem Value).run P w = .ok (.bool false) w := by
        rw [Sem.run_bind, hg]; exact hb.2
      simp only [execOp, ho]
      rw [Sem.run_bind]
      exact congrArg (fun r : Result Value => r.andThen fun a w' => Sem.run P (pure (Next.value a)) w') hr
def quOp (P : Program) (o : Oper) (s : St) (K : SV → Prop) : Prop :=
  match puOp P o s with
  | some sv => forceSV sv K
  | none => match o.op with
    | .load T x => ldOp P o T x s fun v => forceSV v K
    | .pick c a b => pkOp o c a b s K
    | .binOp op t x y _ => match isEq op with
      | some q => match nilCmp P t (ev s.fr x) y with
        | some true => K (.v (.bool q))
        | some false => K (.v (.bool !q))
        | none => seOp P o q t x y s K
      | none => dvOp o op x y s K
    | .slice t x lo hi mx => slOp P o t x lo hi mx s K
    | .indexAddr t x i => ixOp P o t x i s K
    | .index t x i => isOp P o t x i s K
    | .convert src dst x => cvOp P o src dst x s K
    | .build t parts => bdOp P o t parts s K
    | .call { callee := .builtin .min, args, .. } => match args.toList with
      | [x, y] => mmOp o false x y s K
      | _ => Bad o
    | .call { callee := .builtin .max, args, .. } => match args.toList with
      | [x, y] => mmOp o true x y s K
      | _ => Bad o
    | _ => Bad o

theorem two {α : Type} {xs : Array α} {x y : α} (h : xs.toList = [x, y]) : xs = #[x, y] := by rw [← Array.toArray_toList (xs := xs), h]

theorem qu_ok {P : Program} {o : Oper} {s : St} : Qu P E o s (quOp P o s) := by
  intro K a ρ w hS hA hF
  unfold quOp at hS
  split at hS
  · rename_i sv hp
    rw [forceSV_eq] at hS
    exact pu_ok hp K a ρ w hS hA hF
  · split at hS
    · rename_i T x ho
      obtain ⟨v, sv, hk, hr⟩ := ld_ok ho s (fun v => forceSV v K) a ρ w hS hA hF
      rw [forceSV_eq] at hk
      exact ⟨v, sv, hk, hr⟩
    · rename_i ho; exact pk_ok ho s K a ρ w hS hA hF
    · rename_i ho
      split at hS
      · rename_i q hq
        split at hS
        · rename_i hn
          exact ⟨.bool q, _, hS, by simp only [Rv], fun w' _ => by have := nilCmp_ok ho hq hn hF w'; cases q <;> simpa using this⟩
        · rename_i hn
          exact ⟨.bool !q, _, hS, by simp only [Rv], fun w' _ => by have := nilCmp_ok ho hq hn hF w'; cases q <;> simpa using this⟩
        · exact se_ok ho hq s K a ρ w hS hA hF
      · exact dv_ok ho s K a ρ w hS hA hF
    · rename_i ho; exact sl_ok ho s K a ρ w hS hA hF
    · rename_i ho; exact ix_ok ho s K a ρ w hS hA hF
    · rename_i ho; exact is_ok ho s K a ρ w hS hA hF
    · rename_i ho; exact cv_ok ho s K a ρ w hS hA hF
    · rename_i ho; exact bd_ok ho s K a ρ w hS hA hF
    · rename_i args ts ho
      split at hS
      · rename_i x y hargs
        rw [two hargs] at ho
        exact min_ok ho s K a ρ w hS hA hF
      · exact hS.no.elim
    · rename_i args ts ho
      split at hS
      · rename_i x y hargs
        rw [two hargs] at ho
        exact max_ok ho s K a ρ w hS hA hF
      · exact hS.no.elim
    · exact hS.no.elim

def isEff : Op → Bool
  | .store _ _ _ => true
  | .alloc _ => true
  | .box _ _ => true
  | .buildSlice _ _ _ => true
  | .makeSlice _ _ _ => true
  | .call { callee := .builtin .append, .. } => true
  | .call { callee := .value _, .. } => true
  | .panic _ => true
  | _ => false

/-- Whether an address lies in an own row. -/
def rowAt (s : St) : SV → Bool
  | .p i _ => match nth s.H i with
    | some (.row _ _ _ _) => true
    | _ => false
  | _ => false
/-- A store; a slice of its own that is stored into an own row is done first. -/
def stEff (P : Program) (o : Oper) (T : TypeId) (x v : Operand) (s : St) (K : List Nat → SV → St → Prop) : Prop :=
  match ev s.fr v with
  | .s k => match rowAt s (ev s.fr x) with
    | true => match nth s.H k with
      | some (.row _ szk nk ys) => (∀ u ∈ ys, u.oneCell' = true) ∧ ∀ A c G', Ghe s.G G' → Sl G' A nk c szk ys → Knw s.G G' A ys →
          forceL (fzs k (.slice A nk c) s.fr) fun fr' => forceObs ((obfz k (.slice A nk c) s.H).set k .gone) fun H' => stOp P o T x v ⟨fr', H', G'⟩ (K (k :: tcOf s o))
      | _ => Bad o
    | false => stOp P o T x v s (K (tcOf s o))
  | _ => stOp P o T x v s (K (tcOf s o))
theorem stEff_ok {P : Program} {o : Oper} {T : TypeId} {x v : Operand} (ho : o.op = .store T x v) {s : St} {K : List Nat → SV → St → Prop} {next : Act → World → Prop} {Q : Exit → Act → World → Prop} {a : Act}
    (hK : ∀ T sv s', K T sv s' → ∀ ρ' v w', Ag E ρ' s'.H s'.G w' → Rvs ρ' s'.fr a.tmps.toList → Rv ρ' sv v → Fp ρ ρ' s.G s'.G T w w' → next (a.put o.dst v) w')
    (hS : stEff P o T x v s K) (hA : Ag E ρ s.H s.G w) (hF : Rvs ρ s.fr a.tmps.toList) : o.wp P a w next Q := by
  unfold stEff at hS
  split at hS
  case h_2 => exact st_ok ho s _ next Q a ρ w (hK _) hS hA hF
  rename_i k hv
  split at hS
  case h_2 => exact st_ok ho s _ next Q a ρ w (hK _) hS hA hF
  simp only [nth_eq] at hS
  split at hS
  case h_2 => exact hS.no.elim
  rename_i ek szk nk ys hHk
  obtain ⟨h1, h2⟩ := hS
  obtain ⟨A, c, G', hρ, hg, hfr, hwh, hsl, hA'⟩ := hA.done5 hHk h1
  have h := h2 A c G' hg hsl ⟨hfr, hwh⟩
  clear h2
  simp only [forceL_eq, forceObs_eq] at h
  rw [← obfz_eq] at hA'
  have hF' : Rvs (ρ.set k .nilFunc) (fzs k (.slice A nk c) s.fr) a.tmps.toList := hF.fz_ hρ _
  refine st_ok ho ⟨_, _, G'⟩ _ next Q a (ρ.set k .nilFunc) w (fun sv s' hk ρ' v' w' ha hf hr hfp => hK _ sv s' hk ρ' v' w' ha hf hr (hfp.frz (k := k) (by simp) (fun i hi => ?_) hg)) h hA' hF'
  simp only [tcOf, ho, ev_fz] at hi
  simp only [tcOf, ho, List.mem_cons]
  cases hx : ev s.fr x with
  | p j off =>
    rw [hx] at hi
    cases hb : Nat.beq j k <;> simp [SV.fz, hb] at hi
    subst hi; simp
  | v _ => rw [hx] at hi; simp [SV.fz] at hi
  | s j =>
    rw [hx] at hi
    cases hb : Nat.beq j k <;> simp [SV.fz, hb] at hi
  | f _ _ _ => rw [hx] at hi; simp [SV.fz] at hi
  | agg _ => rw [hx] at hi; simp [SV.fz] at hi
  | tup _ => rw [hx] at hi; simp [SV.fz] at hi
  | lit _ => rw [hx] at hi; simp [SV.fz] at hi
  | dead => rw [hx] at hi; simp [SV.fz] at hi
def effOp (P : Program) (E : Env) (o : Oper) (s : St) (K : List Nat → SV → St → Prop) : Prop :=
  match o.op with
  | .store T x v => stEff P o T x v s K
  | .alloc T => alOp P o T s (K (tcOf s o))
  | .box T x => bxOp o T x s (K (tcOf s o))
  | .buildSlice t n parts => bsOp P o t n parts s (K (tcOf s o))
  | .makeSlice t x y => mkOp P o t x y s (K (tcOf s o))
  | .call { callee := .builtin .append, args, argTypes } => match args.toList, argTypes.toList with
    | [x, y], [t, t'] => match Nat.beq t t' with
      | true => apOp P o t x y s (K (tcOf s o))
      | false => Bad o
    | _, _ => Bad o
  | .call { callee := .value g, args, .. } => match ev s.fr g with
    | .f (.func f) first cap => forceL (first ++ evs s.fr args.toList ++ cap) fun xs => CallVC P E f xs s K
    | _ => Bad o
  | .panic x => match ev s.fr x with
    | .v (.iface t u) => E.Pan (.iface t u) s.H s.G
    | _ => Bad o
  | _ => Bad o

theorem cl_ok {P : Program} {o : Oper} {g : Operand} {args : Array Operand} {ts : Array TypeId} (ho : o.op = .call { callee := .value g, args := args, argTypes := ts }) {s : St} {f : FuncId} {first cap : List SV}
    (hg : ev s.fr g = .f (.func f) first cap) {K : List Nat → SV → St → Prop} {next : Act → World → Prop} {Q : Exit → Act → World → Prop} {a : Act}
    (hK : ∀ T sv s', K T sv s' → ∀ ρ' v w', Ag E ρ' s'.H s'.G w' → Rvs ρ' s'.fr a.tmps.toList → Rv ρ' sv v → Fp ρ ρ' s.G s'.G T w w' → next (a.put o.dst v) w')
    (hP : ∀ x H' G' ρ' w', E.Pan x H' G' → Ag E ρ' H' G' w' → Q (.panic [{ v := x, recovered := false }]) a w')
    (hS : CallVC P E f (first ++ evs s.fr args.toList ++ cap) s K) (hA : Ag E ρ s.H s.G w) (hF : Rvs ρ s.fr a.tmps.toList) : o.wp P a w next Q := by
  have hgv := ev_ok hF g
  rw [hg] at hgv
  simp only [Rv] at hgv
  obtain ⟨a', c', hv, h1, h2⟩ := hgv
  have hargs : Rvs ρ (first ++ evs s.fr args.toList ++ cap) (a'.toList ++ args.toList.map a.eval ++ c'.toList) := (h1.append (evs_ok hF args.toList)).append h2
  have hrun : (execOp a.eval o).run P w = .ok (.enter f (a' ++ args.map a.eval ++ c')) w := by
    simp only [execOp, ho, resolve, hv, Deferred.ofValue, Sem.run_bind, Sem.run_pure, Result.andThen_ok, invoke]
    exact hS.enters _ _
  unfold Oper.wp
  rw [hrun, Oper.upon_enter]
  have hc := hS.calls ρ w _ hA hargs
  have he : (a'.toList ++ args.toList.map a.eval ++ c'.toList).toArray = a' ++ args.map a.eval ++ c' := by simp
  rw [he] at hc
  refine hc.mono fun e w' hh => ?_
  rcases hh with ⟨v, T, sv, s', ρ', rfl, hk, hA', hr, hfr, hfp⟩ | ⟨x, H', G', ρ', rfl, hp, hA'⟩
  · exact hK T sv s' hk ρ' v w' hA' (hfr _ hF) hr hfp
  · exact hP x H' G' ρ' w' hp hA'

theorem eff_ok {P : Program} {o : Oper} {s : St} {K : List Nat → SV → St → Prop} {next : Act → World → Prop} {Q : Exit → Act → World → Prop} {a : Act}
    (hK : ∀ T sv s', K T sv s' → ∀ ρ' v w', Ag E ρ' s'.H s'.G w' → Rvs ρ' s'.fr a.tmps.toList → Rv ρ' sv v → Fp ρ ρ' s.G s'.G T w w' → next (a.put o.dst v) w')
    (hP : ∀ x H' G' ρ' w', E.Pan x H' G' → Ag E ρ' H' G' w' → Q (.panic [{ v := x, recovered := false }]) a w')
    (hS : effOp P E o s K) (hA : Ag E ρ s.H s.G w) (hF : Rvs ρ s.fr a.tmps.toList) : o.wp P a w next Q := by
  unfold effOp at hS
  split at hS
  · rename_i ho; exact stEff_ok ho hK hS hA hF
  · rename_i ho; exact al_ok ho s _ next Q a ρ w (hK _) hS hA hF
  · rename_i ho; exact bx_ok ho s _ next Q a ρ w (hK _) hS hA hF
  · rename_i ho; exact bs_ok ho s _ next Q a ρ w (hK _) hS hA hF
  · rename_i ho; exact mk_ok ho s _ next Q a ρ w (hK _) hS hA hF
  · rename_i args ts ho
    split at hS
    case h_2 => exact hS.no.elim
    rename_i x y t t' hargs hts
    split at hS
    · rename_i ht
      have ht' := Nat.eq_of_beq_eq_true ht
      subst ht'
      rw [two hargs, two hts] at ho
      exact ap_ok ho s _ next Q a ρ w (hK _) hS hA hF
    · exact hS.no.elim
  · rename_i g args ts ho
    split at hS
    · rename_i f first cap hg
      rw [forceL_eq] at hS
      exact cl_ok ho hg hK hP hS hA hF
    · exact hS.no.elim
  · rename_i x ho
    split at hS
    · rename_i t u hx
      have hxv := ev_ok hF x
      rw [hx] at hxv
      simp only [Rv] at hxv
      have hrun : (execOp a.eval o).run P w = .halt (.panic (.iface t u)) w := by
        simp [execOp, ho, hxv, Instr.panic, goPanic]
      unfold Oper.wp
      rw [hrun, Oper.upon_panic]
      exact hP _ _ _ ρ w hS hA
    · exact hS.no.elim
  · exact hS.no.elim

def putS (d : Option Tmp) (v : SV) (s : St) (k : St → Prop) : Prop :=
  match d with
  | some t => s.un fun fr H G => forceSp (fr.set t v) fun fr' => k ⟨fr', H, G⟩
  | none => k s

theorem putS_ok {d : Option Tmp} {sv : SV} {s : St} {k : St → Prop} (h : putS d sv s k) {a : Act} {v : Value} (hF : Rvs ρ s.fr a.tmps.toList) (hv : Rv ρ sv v) :
    ∃ s', k s' ∧ s'.H = s.H ∧ s'.G = s.G ∧ Rvs ρ s'.fr (a.put d v).tmps.toList := by
  unfold putS at h
  cases d with
  | none => exact ⟨s, h, rfl, rfl, hF⟩
  | some t =>
    simp only [St.un_eq, forceSp_eq] at h
    refine ⟨_, h, rfl, rfl, ?_⟩
    simp only [Act.put, Array.toList_setIfInBounds]
    exact Rvs.set_ hv hF

def sxGuard (all : List Oper) (o : Oper) (s : St) (ex sk : St → Prop) : Prop :=
  match o.guard with
  | none => ex s
  | some (j, want) => match nth all j with
    | some oj => match oj.dst with
      | some t => match nth s.fr t with
        | some (.lit true) => match want with
          | true => ex s
          | false => sk s
        | some (.lit false) => match want with
          | true => sk s
          | false => ex s
        | some (.v (.bool b)) => br b
          (s.un fun fr H G => forceSp (fr.set t (.lit true)) fun fr' => match want with
            | true => ex ⟨fr', H, G⟩
            | false => sk ⟨fr', H, G⟩)
          (s.un fun fr H G => forceSp (fr.set t (.lit false)) fun fr' => match want with
            | true => sk ⟨fr', H, G⟩
            | false => ex ⟨fr', H, G⟩)
        | some (.v (.tuple _)) => sk s
        | _ => Bad o
      | none => Bad o
    | none => Bad o

theorem set_lit {fr : List SV} {ys : List Value} {t : Nat} {b : Bool} (hF : Rvs ρ fr ys) (hy : ys[t]? = some (.bool b)) : Rvs ρ (fr.set t (.lit b)) ys := by
  have h := Rvs.set_ (ρ := ρ) (x := .lit b) (y := .bool b) (by simp [Rv]) (k := t) hF
  have he : ys.set t (.bool b) = ys := by
    apply List.ext_getElem?
    intro k
    by_cases hk : t = k
    · subst hk
      rw [List.getElem?_set_self (by rw [List.getElem?_eq_some_iff] at hy; exact hy.1), hy]
    · rw [List.getElem?_set_ne hk]
  rwa [he] at h

theorem guard_ok {all : List Oper} {o : Oper} {s : St} {ex sk : St → Prop} (h : sxGuard all o s ex sk) {a : Act} (hF : Rvs ρ s.fr a.tmps.toList) :
    ∃ s', s'.H = s.H ∧ s'.G = s.G ∧ Rvs ρ s'.fr a.tmps.toList ∧
      ((Region.wanted o (yielded all.toArray a.tmps) = true ∧ ex s') ∨ (Region.wanted o (yielded all.toArray a.tmps) = false ∧ sk s')) := by
  unfold sxGuard at h
  split at h
  · rename_i hg; exact ⟨s, rfl, rfl, hF, .inl ⟨by simp [Region.wanted, hg], h⟩⟩
  · rename_i j want hg
    split at h
    case h_2 => exact h.no.elim
    rename_i oj hj
    split at h
    case h_2 => exact h.no.elim
    rename_i t ht
    simp only [nth_eq] at hj h
    have hy : ∀ {y : Value}, a.tmps.toList[t]? = some y → yielded all.toArray a.tmps j = match y with | .bool b => some b | _ => none := by
      intro y hy
      rw [Array.getElem?_toList] at hy
      simp [yielded, hj, ht, hy]
      cases y <;> rfl
    split at h
    · rename_i hs
      obtain ⟨y, hyt, hr⟩ := hF.get hs
      simp only [Rv] at hr; subst hr
      have hyy := hy hyt
      split at h
      · exact ⟨s, rfl, rfl, hF, .inl ⟨by simp [Region.wanted, hg, hyy], h⟩⟩
      · exact ⟨s, rfl, rfl, hF, .inr ⟨by simp [Region.wanted, hg, hyy], h⟩⟩
    · rename_i hs
      obtain ⟨y, hyt, hr⟩ := hF.get hs
      simp only [Rv] at hr; subst hr
      have hyy := hy hyt
      split at h
      · exact ⟨s, rfl, rfl, hF, .inr ⟨by simp [Region.wanted, hg, hyy], h⟩⟩
      · exact ⟨s, rfl, rfl, hF, .inl ⟨by simp [Region.wanted, hg, hyy], h⟩⟩
    · rename_i b hs
      obtain ⟨y, hyt, hr⟩ := hF.get hs
      simp only [Rv] at hr; subst hr
      have hyy := hy hyt
      have hb := br_ok h
      cases b
      · simp only [Bool.false_eq_true, if_false, St.un_eq, forceSp_eq] at hb
        split at hb
        · exact ⟨⟨s.fr.set t (.lit false), s.H, s.G⟩, rfl, rfl, set_lit hF hyt, .inr ⟨by simp [Region.wanted, hg, hyy], hb⟩⟩
        · exact ⟨⟨s.fr.set t (.lit false), s.H, s.G⟩, rfl, rfl, set_lit hF hyt, .inl ⟨by simp [Region.wanted, hg, hyy], hb⟩⟩
      · simp only [if_true, St.un_eq, forceSp_eq] at hb
        split at hb
        · exact ⟨⟨s.fr.set t (.lit true), s.H, s.G⟩, rfl, rfl, set_lit hF hyt, .inl ⟨by simp [Region.wanted, hg, hyy], hb⟩⟩
        · exact ⟨⟨s.fr.set t (.lit true), s.H, s.G⟩, rfl, rfl, set_lit hF hyt, .inr ⟨by simp [Region.wanted, hg, hyy], hb⟩⟩
    · rename_i ys hs
      obtain ⟨y, hyt, hr⟩ := hF.get hs
      simp only [Rv] at hr; subst hr
      have hyy := hy hyt
      exact ⟨s, rfl, rfl, hF, .inr ⟨by simp [Region.wanted, hg, hyy], h⟩⟩
    · exact h.no.elim

/-! ### a store into a block of which all is known and which is new: what is known of it changes -/
def putG (G : Gh) (b : Nat) (o : Obj) : Gh := fun b' => if b' = b then some o else G b'
def thPtr (s : St) (o : Oper) : Option (TypeId × Addr × SV) := match o.op with
  | .store T x v => match ev s.fr x with
    | .v (.pointer (some ad)) => some (T, ad, ev s.fr v)
    | _ => none
  | _ => none
def thOp (P : Program) (E : Env) (o : Oper) (T : TypeId) (ad : Addr) (v : SV) (s : St) (K : St → Prop) : Prop :=
  match szOf P T, v with
  | some n, .v u => match Nat.beq n 1 with
    | true => ∃ (cs : Array Value) (T' : TypeId), s.G ad.block = some (.cells cs T' (0, 0)) ∧ E.G0 ad.block = none ∧ ad.spot = none ∧ ad.off < cs.size ∧ u.oneCell' = true ∧
        K ⟨s.fr, s.H, putG s.G ad.block (.cells (cs.toList.set ad.off u).toArray T' (0, 0))⟩
    | false => Bad o
  | _, _ => Bad o
theorem th_ok {P : Program} {o : Oper} {s : St} {T : TypeId} {ad : Addr} {v : SV} (hp : thPtr s o = some (T, ad, v)) {K : St → Prop} {next : Act → World → Prop} {Q : Exit → Act → World → Prop} {a : Act}
    (hK : ∀ s', K s' → ∀ w', Ag E ρ s'.H s'.G w' → Rvs ρ s'.fr a.tmps.toList → next (a.put o.dst undef) w') (hS : thOp P E o T ad v s K) (hA : Ag E ρ s.H s.G w) (hF : Rvs ρ s.fr a.tmps.toList) : o.wp P a w next Q := by
  unfold thPtr at hp
  split at hp
  case h_2 => cases hp
  rename_i T0 x v0 ho
  split at hp
  case h_2 => cases hp
  rename_i ad0 hx0
  simp only [Option.some.injEq, Prod.mk.injEq] at hp
  obtain ⟨rfl, rfl, rfl⟩ := hp
  have hx := ev_ok hF x
  have hv := ev_ok hF v0
  rw [hx0] at hx
  simp only [Rv] at hx
  unfold thOp at hS
  split at hS
  case h_2 => exact hS.no.elim
  rename_i n u hsz hu
  rw [hu] at hv
  simp only [Rv] at hv
  split at hS
  case h_2 => exact hS.no.elim
  rename_i hn
  have hn1 := Nat.eq_of_beq_eq_true hn
  subst hn1
  obtain ⟨cs, T', hG, h0, hsp, hoff, h1, hkk⟩ := hS
  obtain ⟨b, off, spot⟩ := ad0
  dsimp only at hG h0 hsp hoff hkk
  subst hsp
  have hc := hA.ext _ _ hG
  have hcell : u.cells.toList = [u] := by rw [cells_of_one h1]
  have hrun := run_storeAt (w := w) (n := 1) (off := off) (v := u) hsz (by rw [hcell]; rfl) hc (by omega) (by rw [hcell]; intro y hy; simp at hy; subst hy; exact h1)
  rw [hcell] at hrun
  have hset : cs.toList.take off ++ [u] ++ cs.toList.drop (off + 1) = cs.toList.set off u := by
    rw [List.set_eq_take_append_cons_drop, if_pos (by simpa using hoff)]; simp
  rw [hset] at hrun
  have hex : (execOp a.eval o).run P w = .ok .skip (w.setRow b (cs.toList.set off u).toArray) := by
    simp only [execOp, ho, hx, hv, Sem.run_bind, hrun, Result.andThen_ok, Sem.run_pure]
  refine wp_skip' hex (hK _ hkk _ ?_ hF)
  have hsr := setRow_heap w b cs (cs.toList.set off u).toArray T' (0, 0) hc
  have hoth : ∀ k, k ≠ b → (w.setRow b (cs.toList.set off u).toArray).heap[k]? = w.heap[k]? := fun k hk => setRow_other w b k _ hk
  have hgr := grown_setRow w b (cs.toList.set off u).toArray
  have hnew : E.w0.heap.size ≤ b ∨ E.F b := by
    rcases hA.gnew b _ hG with h9 | h9
    · rw [h0] at h9; cases h9
    · exact h9
  have hne : ∀ (i : Nat) x k, ρ[i]? = some x → blkOf x = some k → k ≠ b := fun i x k hx hk e => by
    have := (hA.own i x k hx hk).2.1
    rw [e, hG] at this; cases this
  refine ⟨hA.len, fun i ob x hob hx => (hA.obs i ob x hob hx).mono fun k hk => hoth k (hne i x k hx hk), hA.apart, fun i x k hx hk => ?_, fun k o hk => ?_, fun k hk hkF => ?_, ?_, ?_, ?_, ?_, hA.old, fun k o hk => ?_, fun k o hk => ?_⟩
  · obtain ⟨h4, h5, h6⟩ := hA.own i x k hx hk
    refine ⟨by simpa [World.setRow] using h4, ?_, h6⟩
    show putG s.G b _ k = none
    unfold putG
    rw [if_neg (hne i x k hx hk)]; exact h5
  · replace hk : putG s.G b (.cells (cs.toList.set off u).toArray T' (0, 0)) k = some o := hk
    unfold putG at hk
    split at hk
    · rename_i e; subst e; cases hk; exact hsr
    · rename_i e; rw [hoth k e]; exact hA.ext k o hk
  · have : k ≠ b := fun e => by
      rw [e] at hk hkF
      rcases hnew with h9 | h9
      · omega
      · exact hkF h9
    rw [hoth k this]; exact hA.frame k hk hkF
  · simpa [World.setRow] using hA.size
  · exact hA.os
  · exact hA.tape
  · exact hA.output
  · show putG s.G b _ k = some o
    unfold putG
    rw [if_neg (fun e => by subst e; rw [h0] at hk; cases hk)]
    exact hA.gold k o hk
  · replace hk : putG s.G b (.cells (cs.toList.set off u).toArray T' (0, 0)) k = some o := hk
    unfold putG at hk
    split at hk
    · rename_i e; subst e; exact .inr hnew
    · exact hA.gnew k o hk

/-- What is kept throughout: what is deferred, and some slots. -/
def Env.Kp (E : Env) (a : Act) : Prop := a.defers = E.D ∧ ∀ q ∈ E.W, a.tmps[q.1]? = some q.2
def Env.dOk (E : Env) (d : Option Tmp) : Prop := ∀ q ∈ E.W, d ≠ some q.1
theorem Env.Kp.put {E : Env} {a : Act} (h : E.Kp a) {d : Option Tmp} (hd : E.dOk d) (v : Value) : E.Kp (a.put d v) := by
  refine ⟨by cases d <;> exact h.1, fun q hq => ?_⟩
  cases d with
  | none => exact h.2 q hq
  | some t =>
    have hne : t ≠ q.1 := fun e => hd q hq (by rw [e])
    show (a.tmps.setIfInBounds t v)[q.1]? = _
    rw [Array.getElem?_setIfInBounds_ne hne]
    exact h.2 q hq
theorem Env.dOk_nil {E : Env} (h : E.W = []) (d : Option Tmp) : E.dOk d := fun q hq => by rw [h] at hq; simp at hq
/-- Operations one behind the other. -/
def sxOps (P : Program) (E : Env) (all : List Oper) : List Oper → (St → Prop) → St → Prop
  | [], K, s => K s
  | o :: r, K, s => sxGuard all o s
    (fun s => match isEff o.op with
      | true => match thPtr s o with
        | some (T, ad, v) => thOp P E o T ad v s fun s' => putS o.dst (.v undef) s' (sxOps P E all r K)
        | none => effOp P E o s fun _ v s' => putS o.dst v s' (sxOps P E all r K)
      | false => quOp P o s fun v => putS o.dst v s (sxOps P E all r K))
    (fun s => putS o.dst (.v undef) s (sxOps P E all r K))

theorem St.eta (s : St) : (⟨s.fr, s.H, s.G⟩ : St) = s := rfl

theorem sxOps_ok {P : Program} {all : List Oper} {Q : Exit → Act → World → Prop} : ∀ (l : List Oper) {K : St → Prop} {s : St} {a : Act} {w : World} {ρ : List Value},
    (∀ s', K s' → ∀ ρ' a' w', Ag E ρ' s'.H s'.G w' → Rvs ρ' s'.fr a'.tmps.toList → E.Kp a' → Q .normal a' w') →
    (∀ x H' G', E.Pan x H' G' → ∀ ρ' a' w', Ag E ρ' H' G' w' → E.Kp a' → Q (.panic [{ v := x, recovered := false }]) a' w') →
    sxOps P E all l K s → Ag E ρ s.H s.G w → Rvs ρ s.fr a.tmps.toList → E.Kp a → (∀ o ∈ l, E.dOk o.dst) → wpList P all.toArray Q l a w
  | [], K, s, a, w, ρ, hK, hP, hS, hA, hF, hd, _ => hK s hS ρ a w hA hF hd
  | o :: r, K, s, a, w, ρ, hK, hP, hS, hA, hF, hd, hw0 => by
    simp only [sxOps] at hS
    have hd' : ∀ v, E.Kp (a.put o.dst v) := fun v => hd.put (hw0 o (by simp)) v
    replace hw0 : ∀ o ∈ r, E.dOk o.dst := fun o' ho' => hw0 o' (by simp [ho'])
    obtain ⟨s1, h1, h2, h3, hw⟩ := guard_ok hS hF
    rw [← h1, ← h2] at hA
    unfold wpList
    rcases hw with ⟨hw, hx⟩ | ⟨hw, hx⟩
    · rw [if_pos hw]
      refine .inl ?_
      split at hx
      · split at hx
        · rename_i T ad v hp
          refine th_ok (ρ := ρ) hp (fun s' hk w' hA' hF' => ?_) hx hA h3
          obtain ⟨s2, hk2, e1, e2, hF2⟩ := putS_ok hk hF' (v := undef) (by simp [Rv])
          exact sxOps_ok r hK hP hk2 (by rw [e1, e2]; exact hA') hF2 (hd' _) hw0
        refine eff_ok (ρ := ρ) (fun T sv s' hk ρ' v w' hA' hF' hr hfp => ?_) (fun x H' G' ρ' w' hp hA' => hP x H' G' hp ρ' a w' hA' hd) hx hA h3
        obtain ⟨s2, hk2, e1, e2, hF2⟩ := putS_ok hk hF' hr
        exact sxOps_ok r hK hP hk2 (by rw [e1, e2]; exact hA') hF2 (hd' v) hw0
      · obtain ⟨v, sv, hk, hr, hrun⟩ := qu_ok _ a ρ w hx hA h3
        obtain ⟨s2, hk2, e1, e2, hF2⟩ := putS_ok hk h3 hr
        exact wp_value (hrun w (Agr.refl _ _ _ _)) (sxOps_ok r hK hP hk2 (by rw [e1, e2]; exact hA) hF2 (hd' v) hw0)
    · rw [if_neg (by simp [hw])]
      obtain ⟨s2, hk2, e1, e2, hF2⟩ := putS_ok hx h3 (v := undef) (by simp [Rv])
      exact sxOps_ok r hK hP hk2 (by rw [e1, e2]; exact hA) hF2 (hd' _) hw0
end
end Go.SX
