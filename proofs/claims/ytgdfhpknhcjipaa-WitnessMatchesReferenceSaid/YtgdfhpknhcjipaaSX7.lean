/- A symbolic walk: append, make, min and max; one operation; a list of operations. -/
import Derived.Test.YtgdfhpknhcjipaaSX6
import Derived.Maps.AppendAt
namespace Go.SX
set_option linter.unusedVariables false
set_option linter.unusedSimpArgs false
section
variable {E : Env} {ρ : List Value} {H : List Ob} {G : Gh} {w : World}

def infoOf (P : Program) (t : TypeId) : Option (Nat × Nat × Value) :=
  match P.info? t with
  | some i => match i.zero with
    | some z => some (i.size, i.bytes, z)
    | none => none
  | none => none
theorem infoOf_ok {P : Program} {t : TypeId} {sz by_ : Nat} {z : Value} (h : infoOf P t = some (sz, by_, z)) : ∃ i, P.info? t = some i ∧ i.size = sz ∧ i.bytes = by_ ∧ i.zero = some z := by
  unfold infoOf at h
  split at h
  · rename_i i hi
    split at h <;> simp at h
    rename_i z' hz
    obtain ⟨h1, h2, h3⟩ := h
    exact ⟨i, hi, h1, h2, by rw [hz, h3]⟩
  · simp at h

/-- The end of an append: the object has grown. -/
def apEnd (s : St) (i : Nat) (e sz n m bytes : Nat) (xs news : List Value) (K : SV → St → Prop) : Prop :=
  (n + m) * bytes ≤ 140737488355328 ∧ s.un fun fr H G => forceL (kills i fr) fun fr' => forceSp ((H.map (·.kill i)).set i (.row e sz (n + m) (xs ++ news))) fun H' => K (.s i) ⟨fr', H', G⟩

/-- An append of one element that holds a slice of its own: that slice is done. -/
def apLit (s : St) (e sz bytes j m : Nat) (zs : List SV) (x : Option Nat) (o : Oper) (K : SV → St → Prop) : Prop :=
  match idsS zs with
  | [k] => match nth s.H k, Nat.beq j k with
    | some (.row _ szk nk ys), false => (∀ v ∈ ys, v.oneCell' = true) ∧ ∀ A c G', Ghe s.G G' → Sl G' A nk c szk ys →
        match valsOf (fzs k (.slice A nk c) zs) with
        | some news => match Nat.beq news.length (m * sz), allOne (vs news) with
          | true, true => s.un fun fr H _ => forceL (fzs k (.slice A nk c) fr) fun fr' => forceObs ((obfz k (.slice A nk c) H).set k .gone) fun H' => forceSp news fun news' =>
            match x with
            | some i => match Nat.beq i k, nth H' i with
              | false, some (.row e' sz' n xs) => match Nat.beq e' e, Nat.beq sz' sz with
                | true, true => apEnd ⟨fr', H', G'⟩ i e sz n m bytes xs news' K
                | _, _ => Bad o
              | _, _ => Bad o
            | none => m * bytes ≤ 140737488355328 ∧ pushOb ⟨fr', H', G'⟩ (.row e sz m news') (fun i => .s i) K
          | _, _ => Bad o
        | none => Bad o
    | _, _ => Bad o
  | _ => Bad o

def apOp (P : Program) (o : Oper) (t : TypeId) (x y : Operand) (s : St) (K : SV → St → Prop) : Prop :=
  match P.underlying t with
  | some (.slice e) => match infoOf P e, pos P e with
    | some (sz, bytes, z), true => match Nat.beq z.cells.size sz, Nat.ble 1 bytes with
      | true, true => match ev s.fr x, ev s.fr y with
        | .s i, .v (.slice A m c) => match nth s.H i with
          | some (.row e' sz' n xs) => match Nat.beq e' e, Nat.beq sz' sz with
            | true, true => ∃ news, Sl s.G A m c sz news ∧ apEnd s i e sz n m bytes xs news K
            | _, _ => Bad o
          | _ => Bad o
        | .v (.slice none 0 0), .v (.slice A m c) => ∃ news, Sl s.G A m c sz news ∧ m * bytes ≤ 140737488355328 ∧ pushOb s (.row e sz m news) (fun i => .s i) K
        | .v (.slice none 0 0), .s j => match nth s.H j with
          | some (.row _ sz2 m news) => match Nat.beq sz2 sz with
            | true => (∀ v ∈ news, v.oneCell' = true) ∧ m * bytes ≤ 140737488355328 ∧ pushOb s (.row e sz m news) (fun i => .s i) K
            | false => Bad o
          | some (.lit _ m zs) => apLit s e sz bytes j m zs none o K
          | _ => Bad o
        | .s i, .s j => match nth s.H i, nth s.H j, Nat.beq i j with
          | some (.row e' sz' n xs), some (.row _ sz2 m news), false => match Nat.beq e' e, Nat.beq sz' sz, Nat.beq sz2 sz with
            | true, true, true => (∀ v ∈ news, v.oneCell' = true) ∧ apEnd s i e sz n m bytes xs news K
            | _, _, _ => Bad o
          | some (.row _ _ _ _), some (.lit _ m zs), _ => apLit s e sz bytes j m zs (some i) o K
          | _, _, _ => Bad o
        | _, _ => Bad o
      | _, _ => Bad o
    | _, _ => Bad o
  | _ => Bad o

theorem ap_end {P : Program} {o : Oper} {t : TypeId} {x y : Operand} {a : Act} (ho : o.op = .call { callee := .builtin .append, args := #[x, y], argTypes := #[t, t] })
    {s : St} {K : SV → St → Prop} {next : Act → World → Prop} {Q : Exit → Act → World → Prop} {T : List Nat}
    (hK : ∀ sv s', K sv s' → ∀ ρ' v w', Ag E ρ' s'.H s'.G w' → Rvs ρ' s'.fr a.tmps.toList → Rv ρ' sv v → Fp ρ ρ' s.G s'.G T w w' → next (a.put o.dst v) w')
    (hA : Ag E ρ s.H s.G w) (hF : Rvs ρ s.fr a.tmps.toList) {e sz bytes n m i : Nat} {z v yv : Value} {xs news : List Value} (hu : P.underlying t = some (.slice e)) (hinfo : infoOf P e = some (sz, bytes, z)) (hsz : 0 < sz) (hz : z.cells.size = sz) (hb : 1 ≤ bytes)
    (hiT : i ∈ T) (hxv : a.eval x = v) (hyv : a.eval y = yv) (hρ : ρ[i]? = some v) (hH : s.H[i]? = some (.row e sz n xs))
    (hy : (∃ ad c, yv = .slice (some ad) m c ∧ news.length = m * sz ∧ (∀ j u, news[j]? = some u → w.cell? (ad.add j) = some u) ∧ ∀ u ∈ news, u.oneCell' = true) ∨ (yv = .slice none 0 0 ∧ m = 0 ∧ news = []))
    (h : apEnd s i e sz n m bytes xs news K) : o.wp P a w next Q := by
  obtain ⟨info, hi, rfl, rfl, hz0⟩ := infoOf_ok hinfo
  obtain ⟨hbytes, hk⟩ := h
  rw [St.un_eq, forceL_eq, forceSp_eq] at hk
  have hown := hA.obs i _ v hH hρ
  simp only [ObOK] at hown
  have hblk : blkOf v = v.ownBlock := by
    rcases hown.2 with ⟨rfl, _⟩ | ⟨g, cap, cur, rfl, _⟩ <;> rfl
  have h63 : n + m ≤ maxLen := by
    have : (n + m) * 1 ≤ (n + m) * info.bytes := Nat.mul_le_mul_left _ hb
    simp only [maxLen]; omega
  have done : ∀ v' w', (Builtin.append_ #[t, t] o.type #[v, yv]).run P w = .ok v' w' → w'.ownsRow 0 e info.size v' (n + m) (xs ++ news) → w.grownBy w' v.ownBlock →
      (∀ b, blkOf v' = some b → b < w'.heap.size ∧ (blkOf v = some b ∨ w.heap.size ≤ b)) → o.wp P a w next Q := by
    intro v' w' hr ho' hg hbk
    refine wp_value (w' := w') (v := v') (by simp [execOp, ho, resolve, invoke, builtin, hxv, hyv, hr]) ?_
    refine hK _ _ hk (ρ.set i v') _ _ ?_ hF.kill_ ?_ (Fp.set_ hg (fun b' hb' => ⟨i, hiT, v, hρ, by rw [hblk]; exact hb'⟩) hiT)
    · refine hA.change hρ (fun ad e => by subst e; rcases hown.2 with ⟨h0, _⟩ | ⟨g, cap, cur, h0, _⟩ <;> simp at h0) (by rw [hblk]; exact hg) ?_ hbk
      simp only [ObOK]; exact ho'
    · simp only [Rv]; rw [List.getElem?_set_self (List.getElem?_eq_some_iff.1 hρ).1]
  rcases hy with ⟨ad, c, rfl, hl, hc, h1⟩ | ⟨rfl, rfl, rfl⟩
  · obtain ⟨v', w', hr, ho', hg, hnil, hat⟩ := run_append_own_at (P := P) w 0 t o.type e info z info.size info.bytes hu hi hz0 rfl rfl hz hsz v n xs hown ad m c news hl hc h1 h63 hbytes (Nat.zero_le _)
    refine done v' w' hr ho' hg fun b hb' => ?_
    have hb2 : v'.ownBlock = some b := by
      rcases ho'.2 with ⟨rfl, _⟩ | ⟨g, cap, cur, rfl, _⟩
      · simp [blkOf] at hb'
      · simpa [blkOf, Value.ownBlock] using hb'
    refine ⟨(ho'.lt b hb2).2, ?_⟩
    rcases hat with h1' | h1'
    · left; rw [hblk, ← h1', hb2]
    · right; rw [hb2] at h1'; simp at h1'; omega
  · have hr := run_append_owned_none (P := P) (w := w) 0 t o.type e info info.size hu hi v n xs hown
    refine done v w hr (by simpa using hown) ⟨rfl, rfl, rfl, Nat.le_refl _, fun _ _ _ => rfl⟩ fun b hb' => ⟨(hA.own i v b hρ hb').1, .inl hb'⟩
theorem ap_nil {P : Program} {o : Oper} {t : TypeId} {x y : Operand} {a : Act} (ho : o.op = .call { callee := .builtin .append, args := #[x, y], argTypes := #[t, t] })
    {s : St} {K : SV → St → Prop} {next : Act → World → Prop} {Q : Exit → Act → World → Prop} {T : List Nat}
    (hK : ∀ sv s', K sv s' → ∀ ρ' v w', Ag E ρ' s'.H s'.G w' → Rvs ρ' s'.fr a.tmps.toList → Rv ρ' sv v → Fp ρ ρ' s.G s'.G T w w' → next (a.put o.dst v) w')
    (hA : Ag E ρ s.H s.G w) (hF : Rvs ρ s.fr a.tmps.toList) {e sz bytes m : Nat} {z yv : Value} {news : List Value} (hu : P.underlying t = some (.slice e)) (hinfo : infoOf P e = some (sz, bytes, z)) (hsz : 0 < sz) (hz : z.cells.size = sz) (hb : 1 ≤ bytes)
    (hxv : a.eval x = .slice none 0 0) (hyv : a.eval y = yv)
    (hy : (∃ ad c, yv = .slice (some ad) m c ∧ news.length = m * sz ∧ (∀ j u, news[j]? = some u → w.cell? (ad.add j) = some u) ∧ ∀ u ∈ news, u.oneCell' = true) ∨ (yv = .slice none 0 0 ∧ m = 0 ∧ news = []))
    (hbytes : m * bytes ≤ 140737488355328) (h : pushOb s (.row e sz m news) (fun i => .s i) K) : o.wp P a w next Q := by
  obtain ⟨info, hi, rfl, rfl, hz0⟩ := infoOf_ok hinfo
  unfold pushOb at h
  rw [St.un_eq, litN_eq, forceSp_eq] at h
  have hown : w.ownsRow 0 e info.size (.slice none 0 0) 0 [] := World.ownsRow_nil _ _ _ _
  have h63 : 0 + m ≤ maxLen := by
    have : m * 1 ≤ m * info.bytes := Nat.mul_le_mul_left _ hb
    simp only [maxLen]; omega
  have done : ∀ v' w', (Builtin.append_ #[t, t] o.type #[.slice none 0 0, yv]).run P w = .ok v' w' → w'.ownsRow 0 e info.size v' m news → w.grownBy w' none →
      (∀ b, blkOf v' = some b → w.heap.size ≤ b ∧ b < w'.heap.size) → o.wp P a w next Q := by
    intro v' w' hr ho' hg hbk
    refine wp_value (w' := w') (v := v') (by simp [execOp, ho, resolve, invoke, builtin, hxv, hyv, hr]) ?_
    refine hK _ _ h (ρ ++ [v']) _ _ (hA.push hg hbk ?_) hF.ext ?_ (Fp.push hg)
    · simp only [ObOK]; exact ho'
    · simp only [Rv]; rw [← hA.len]; simp
  rcases hy with ⟨ad, c, rfl, hl, hc, h1⟩ | ⟨rfl, rfl, rfl⟩
  · obtain ⟨v', w', hr, ho', hg, hnil, hat⟩ := run_append_own_at (P := P) w 0 t o.type e info z info.size info.bytes hu hi hz0 rfl rfl hz hsz _ 0 [] hown ad m c news hl hc h1 h63 (by simpa using hbytes) (Nat.zero_le _)
    simp only [Nat.zero_add, List.nil_append] at ho'
    refine done v' w' hr ho' hg fun b hb' => ?_
    have hb2 : v'.ownBlock = some b := by
      rcases ho'.2 with ⟨rfl, _⟩ | ⟨g, cap, cur, rfl, _⟩
      · simp [blkOf] at hb'
      · simpa [blkOf, Value.ownBlock] using hb'
    refine ⟨?_, (ho'.lt b hb2).2⟩
    rcases hat with h1' | h1'
    · rw [hb2] at h1'; simp [Value.ownBlock] at h1'
    · rw [hb2] at h1'; simp at h1'; omega
  · have hr := run_append_owned_none (P := P) (w := w) 0 t o.type e info info.size hu hi _ 0 [] hown
    exact done _ w hr hown ⟨rfl, rfl, rfl, Nat.le_refl _, fun _ _ _ => rfl⟩ fun b hb' => by simp [blkOf] at hb'

theorem pos_lt {P : Program} {t : TypeId} {sz bytes : Nat} {z : Value} (h : pos P t = true) (hi : infoOf P t = some (sz, bytes, z)) : 0 < sz := by
  obtain ⟨i, h1, h2, _⟩ := infoOf_ok hi
  obtain ⟨n, hn⟩ := pos_size h
  simp [szOf, h1] at hn
  omega

theorem beq_ff {a b : Nat} (h : Nat.beq a b = false) : a ≠ b := fun e => by subst e; simp at h
theorem apLit_ok {P : Program} {o : Oper} {t : TypeId} {x y : Operand} {a : Act} (ho : o.op = .call { callee := .builtin .append, args := #[x, y], argTypes := #[t, t] })
    {s : St} {K : SV → St → Prop} {next : Act → World → Prop} {Q : Exit → Act → World → Prop}
    (hK : ∀ sv s', K sv s' → ∀ ρ' v w', Ag E ρ' s'.H s'.G w' → Rvs ρ' s'.fr a.tmps.toList → Rv ρ' sv v → Fp ρ ρ' s.G s'.G (tcOf s o) w w' → next (a.put o.dst v) w')
    (hA : Ag E ρ s.H s.G w) (hF : Rvs ρ s.fr a.tmps.toList) {e sz bytes : Nat} {z : Value} (hu : P.underlying t = some (.slice e)) (hinfo : infoOf P e = some (sz, bytes, z)) (hsz : 0 < sz) (hz : z.cells.size = sz) (hb : 1 ≤ bytes)
    {j m e2 : Nat} {zs : List SV} (hy : ev s.fr y = .s j) (hH : s.H[j]? = some (.lit e2 m zs)) (xo : Option Nat) (hx : ev s.fr x = match xo with | some i => .s i | none => .v (.slice none 0 0))
    (h : apLit s e sz bytes j m zs xo o K) : o.wp P a w next Q := by
  unfold apLit at h
  split at h
  case h_2 => exact h.no.elim
  rename_i k hids
  simp only [nth_eq] at h
  split at h
  case h_2 => exact h.no.elim
  rename_i ek szk nk ys hHk hjk
  have hjk' := beq_ff hjk
  obtain ⟨h1, h2⟩ := h
  obtain ⟨A, c, G', hρ, hg, hsl, hA'⟩ := hA.done hHk h1
  have h := h2 A c G' hg hsl
  clear h2
  split at h
  case h_2 => exact h.no.elim
  rename_i news hvals
  split at h
  case h_2 => exact h.no.elim
  rename_i hl hones
  have hl' := Nat.eq_of_beq_eq_true hl
  simp only [St.un_eq, forceL_eq, forceObs_eq, forceSp_eq] at h
  rw [← obfz_eq] at hA'
  have hF' : Rvs (ρ.set k .nilFunc) (fzs k (.slice A nk c) s.fr) a.tmps.toList := hF.fz_ hρ _
  have hkT : k ∈ tcOf s o := by
    simp only [tcOf, ho, apT, hy, nth_eq, hH, hids]
    split <;> simp
  have hyv := ev_ok hF y
  rw [hy] at hyv
  simp only [Rv] at hyv
  have hyv' : (ρ.set k .nilFunc)[j]? = some (a.eval y) := by rw [List.getElem?_set_ne (fun e => hjk' e.symm)]; exact hyv
  have hHj : ((obfz k (.slice A nk c) s.H).set k .gone)[j]? = some (.lit e2 m (fzs k (.slice A nk c) zs)) := by
    rw [List.getElem?_set_ne (fun e => hjk' e.symm), obfz_eq, List.getElem?_map, hH]; rfl
  have hob := hA'.obs j _ _ hHj hyv'
  simp only [ObOK] at hob
  obtain ⟨b, cs, hyeq, hblk, hrv⟩ := hob
  have hcs := valsOf_ok hvals hrv
  have hone : ∀ u ∈ news, u.oneCell' = true := allOne_ok hA' (Rvs.of_vs news) hones
  have hnews : (∃ ad c, a.eval y = .slice (some ad) m c ∧ news.length = m * sz ∧ (∀ j u, news[j]? = some u → w.cell? (ad.add j) = some u) ∧ ∀ u ∈ news, u.oneCell' = true) ∨ (a.eval y = .slice none 0 0 ∧ m = 0 ∧ news = []) := by
    refine .inl ⟨⟨b, 0, none⟩, m, hyeq, hl', fun i u hi => ?_, hone⟩
    rw [add_off, Nat.zero_add, cell_at hblk]
    rw [← hcs] at hi
    simpa using hi
  have hK' : ∀ (T : List Nat), (∀ i ∈ T, i ∈ tcOf s o) → ∀ sv s', K sv s' → ∀ ρ' v w', Ag E ρ' s'.H s'.G w' → Rvs ρ' s'.fr a.tmps.toList → Rv ρ' sv v → Fp (ρ.set k .nilFunc) ρ' G' s'.G T w w' → next (a.put o.dst v) w' :=
    fun T hT sv s' hk ρ' v w' ha hf hr hfp => hK sv s' hk ρ' v w' ha hf hr (hfp.frz hkT hT hg)
  cases xo with
  | some i =>
    simp only at h hx
    split at h
    case h_2 => exact h.no.elim
    rename_i e' sz' n xs hik hHi
    split at h
    case h_2 => exact h.no.elim
    rename_i he hs'
    have he' := Nat.eq_of_beq_eq_true he
    have hs'' := Nat.eq_of_beq_eq_true hs'
    subst he' hs''
    have hik' := beq_ff hik
    have hxv := ev_ok hF x
    rw [hx] at hxv
    simp only [Rv] at hxv
    refine ap_end (s := ⟨fzs k (.slice A nk c) s.fr, (obfz k (.slice A nk c) s.H).set k .gone, G'⟩) (T := [i]) ho (hK' [i] ?_) hA' hF' hu hinfo hsz hz hb (by simp) rfl rfl ?_ hHi hnews h
    · intro q hq
      simp at hq; subst hq
      simp [tcOf, ho, hx]
    · rw [List.getElem?_set_ne (fun e => hik' e.symm)]; exact hxv
  | none =>
    simp only at h hx
    have hxv := ev_ok hF x
    rw [hx] at hxv
    simp only [Rv] at hxv
    exact ap_nil (s := ⟨fzs k (.slice A nk c) s.fr, (obfz k (.slice A nk c) s.H).set k .gone, G'⟩) (T := []) ho (hK' [] (by simp)) hA' hF' hu hinfo hsz hz hb hxv rfl hnews h.1 h.2

theorem ap_ok {P : Program} {o : Oper} {t : TypeId} {x y : Operand} (ho : o.op = .call { callee := .builtin .append, args := #[x, y], argTypes := #[t, t] }) (s : St) : Ok P E o s (apOp P o t x y s) := by
  intro K next Q a ρ w hK hS hA hF
  have hx := ev_ok hF x
  have hy := ev_ok hF y
  unfold apOp at hS
  split at hS
  case h_2 => exact hS.no.elim
  rename_i e hu
  split at hS
  case h_2 => exact hS.no.elim
  rename_i sz bytes z hinfo hpos
  split at hS
  case h_2 => exact hS.no.elim
  rename_i hz hb
  have hz' := Nat.eq_of_beq_eq_true hz
  have hb' := Nat.le_of_ble_eq_true hb
  have hsz := pos_lt hpos hinfo
  split at hS
  · rename_i i A m c h1 h2
    rw [h1] at hx
    rw [h2] at hy
    simp only [Rv] at hx hy
    simp only [nth_eq] at hS
    split at hS
    case h_2 => exact hS.no.elim
    rename_i e' sz' n xs hH
    split at hS
    case h_2 => exact hS.no.elim
    rename_i he hs'
    have he' := Nat.eq_of_beq_eq_true he
    have hs'' := Nat.eq_of_beq_eq_true hs'
    subst he' hs''
    obtain ⟨news, hsl, hend⟩ := hS
    refine ap_end ho hK hA hF hu hinfo hsz hz' hb' (by simp [tcOf, ho, h1]) rfl hy hx hH ?_ hend
    cases A with
    | none =>
      obtain ⟨rfl, rfl⟩ := hsl.nil rfl
      exact .inr ⟨rfl, rfl, List.eq_nil_of_length_eq_zero (by simpa using hsl.len)⟩
    | some ad => exact .inl ⟨ad, c, rfl, hsl.len, fun j u hj => hA.cell (hsl.there ad rfl j u hj), hsl.ones⟩
  · rename_i A m c h1 h2
    rw [h1] at hx
    rw [h2] at hy
    simp only [Rv] at hx hy
    obtain ⟨news, hsl, hby, hend⟩ := hS
    refine ap_nil ho hK hA hF hu hinfo hsz hz' hb' hx hy ?_ hby hend
    cases A with
    | none =>
      obtain ⟨rfl, rfl⟩ := hsl.nil rfl
      exact .inr ⟨rfl, rfl, List.eq_nil_of_length_eq_zero (by simpa using hsl.len)⟩
    | some ad => exact .inl ⟨ad, c, rfl, hsl.len, fun j u hj => hA.cell (hsl.there ad rfl j u hj), hsl.ones⟩
  · rename_i j h1 h2
    rw [h1] at hx
    rw [h2] at hy
    simp only [Rv] at hx hy
    simp only [nth_eq] at hS
    split at hS
    case h_2 => rename_i hH2; exact apLit_ok ho hK hA hF hu hinfo hsz hz' hb' h2 hH2 none h1 hS
    case h_3 => exact hS.no.elim
    rename_i e2 sz2 m news hH2
    split at hS
    case h_2 => exact hS.no.elim
    rename_i hs2
    have hs3 := Nat.eq_of_beq_eq_true hs2
    subst hs3
    obtain ⟨h1c, hby, hend⟩ := hS
    refine ap_nil ho hK hA hF hu hinfo hsz hz' hb' hx rfl ?_ hby hend
    have hob := hA.obs j _ _ hH2 hy
    simp only [ObOK] at hob
    rcases hob.2 with ⟨h0, h0'⟩ | ⟨g, cap, cur, h0, _⟩
    · subst h0'
      exact .inr ⟨h0, rfl, List.eq_nil_of_length_eq_zero (by simpa using hob.1)⟩
    · exact .inl ⟨⟨g, 0, none⟩, cap, h0, hob.1, hob.cells (by rw [h0]; rfl), h1c⟩
  · rename_i i j h1 h2
    rw [h1] at hx
    rw [h2] at hy
    simp only [Rv] at hx hy
    simp only [nth_eq] at hS
    split at hS
    case h_2 => rename_i hHa hHb; exact apLit_ok ho hK hA hF hu hinfo hsz hz' hb' h2 hHb (some i) h1 hS
    case h_3 => exact hS.no.elim
    rename_i e' sz' n xs e2 sz2 m news hH hH2 hij
    split at hS
    case h_2 => exact hS.no.elim
    rename_i he hs' hs2
    have he' := Nat.eq_of_beq_eq_true he
    have hs'' := Nat.eq_of_beq_eq_true hs'
    have hs3 := Nat.eq_of_beq_eq_true hs2
    subst he' hs'' hs3
    obtain ⟨h1c, hend⟩ := hS
    refine ap_end ho hK hA hF hu hinfo hsz hz' hb' (by simp [tcOf, ho, h1]) rfl rfl hx hH ?_ hend
    have hob := hA.obs j _ _ hH2 hy
    simp only [ObOK] at hob
    rcases hob.2 with ⟨h0, h0'⟩ | ⟨g, cap, cur, h0, _⟩
    · subst h0'
      exact .inr ⟨h0, rfl, List.eq_nil_of_length_eq_zero (by simpa using hob.1)⟩
    · refine .inl ⟨⟨g, 0, none⟩, cap, h0, hob.1, hob.cells (by rw [h0]; rfl), h1c⟩
  · exact hS.no.elim

/-! ### make -/
def mkOp (P : Program) (o : Oper) (t : TypeId) (x y : Operand) (s : St) (K : SV → St → Prop) : Prop :=
  match P.underlying t with
  | some (.slice e) => match infoOf P e with
    | some (1, bytes, z) => match ev s.fr x, ev s.fr y, one (.v z), Nat.ble 1 bytes with
      | .v (.int _ n), .v (.int _ n'), true, true => litN bytes fun bytes => n' = n ∧ (0 ≤ n ∧ n * bytes ≤ 281474976710656) ∧ pushOb s (.row e 1 n.toNat (List.replicate n.toNat z)) (fun i => .s i) K
      | _, _, _, _ => Bad o
    | _ => Bad o
  | _ => Bad o
theorem mk_ok {P : Program} {o : Oper} {t : TypeId} {x y : Operand} (ho : o.op = .makeSlice t x y) (s : St) : Ok P E o s (mkOp P o t x y s) := by
  intro K next Q a ρ w hK hS hA hF
  have hx := ev_ok hF x
  have hy := ev_ok hF y
  unfold mkOp at hS
  split at hS
  case h_2 => exact hS.no.elim
  rename_i e hu
  split at hS
  case h_2 => exact hS.no.elim
  rename_i bytes z hinfo
  obtain ⟨i, hi, hs, rfl, hz⟩ := infoOf_ok hinfo
  split at hS
  case h_2 => exact hS.no.elim
  rename_i k n k' n' h1 h2 hz1 hb1
  rw [h1] at hx
  rw [h2] at hy
  simp only [Rv] at hx hy
  rw [litN_eq] at hS
  obtain ⟨rfl, ⟨h0, hle⟩, hS⟩ := hS
  have hb1 := Nat.le_of_ble_eq_true hb1
  have hzc : z.cells = #[z] := by cases z <;> simp_all [one, Value.cells]
  unfold pushOb at hS
  rw [St.un_eq, litN_eq, forceSp_eq] at hS
  have h63 : n' ≤ 9223372036854775807 := by
    have : n' * 1 ≤ n' * (i.bytes : Int) := Int.mul_le_mul_of_nonneg_left (by omega) h0
    omega
  have hr := run_make (P := P) w t e i z hu hi hz k k' n' n' h0 (Int.le_refl _) (by rw [Int.mul_comm]; exact hle) h63
  have hm : (madeCells z.cells (n'.toNat * i.size)).toList = List.replicate n'.toNat z := by
    rw [hs, hzc]
    apply List.ext_getElem
    · simp [madeCells]
    · intro j h1 h2
      simp [madeCells, Nat.mod_one]
  refine wp_value (w' := w.alloc (.cells (madeCells z.cells (n'.toNat * i.size)) e)) (v := .slice (some ⟨w.heap.size, 0, none⟩) n'.toNat n'.toNat) (by simp [execOp, ho, hx, hy, hr]) ?_
  refine hK _ _ hS (ρ ++ [.slice (some ⟨w.heap.size, 0, none⟩) n'.toNat n'.toNat]) _ _ ?_ hF.ext ?_ (Fp.push (grown_alloc w _))
  · refine hA.push (grown_alloc w _) (fun b hb => ?_) ?_
    · simp [blkOf] at hb; subst hb; simp
    · simp only [ObOK]
      have := own_lit' w e 1 n'.toNat (List.replicate n'.toNat z) (by simp) (by simp only [maxLen]; omega)
      rw [← hm] at this ⊢
      simpa using this
  · simp only [Rv]; rw [← hA.len]; simp

/-! ### min, max -/
def mmOp (o : Oper) (mx : Bool) (x y : Operand) (s : St) (K : SV → Prop) : Prop :=
  match ev s.fr x, ev s.fr y with
  | .v (.int k a), .v (.int _ b) => match mx with
    | true => K (.v (.int k (if b > a then b else a)))
    | false => K (.v (.int k (if b < a then b else a)))
  | _, _ => Bad o
theorem min_ok {P : Program} {o : Oper} {x y : Operand} {ts : Array TypeId} (ho : o.op = .call { callee := .builtin .min, args := #[x, y], argTypes := ts }) (s : St) : Qu P E o s (mmOp o false x y s) := by
  intro K a ρ w hS hA hF
  have hx := ev_ok hF x
  have hy := ev_ok hF y
  unfold mmOp at hS
  split at hS
  case h_2 => exact hS.no.elim
  rename_i k p k' q h1 h2
  rw [h1] at hx
  rw [h2] at hy
  simp only [Rv] at hx hy
  exact ⟨.int k (if q < p then q else p), _, hS, by simp [Rv], fun w' _ => by simp [execOp, ho, resolve, invoke, builtin, hx, hy, Builtin.min_, Builtin.min2]⟩
theorem max_ok {P : Program} {o : Oper} {x y : Operand} {ts : Array TypeId} (ho : o.op = .call { callee := .builtin .max, args := #[x, y], argTypes := ts }) (s : St) : Qu P E o s (mmOp o true x y s) := by
  intro K a ρ w hS hA hF
  have hx := ev_ok hF x
  have hy := ev_ok hF y
  unfold mmOp at hS
  split at hS
  case h_2 => exact hS.no.elim
  rename_i k p k' q h1 h2
  rw [h1] at hx
  rw [h2] at hy
  simp only [Rv] at hx hy
  exact ⟨.int k (if q > p then q else p), _, hS, by simp [Rv], fun w' _ => by simp [execOp, ho, resolve, invoke, builtin, hx, hy, Builtin.max_, Builtin.max2]⟩
end
end Go.SX
