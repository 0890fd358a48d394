/- SXg: SXG, SXO, SXK in one text. -/
import Derived.Test.YtglelcgllodhoaaSXc
import Derived.ChangeArms
import Derived.ChangeSame
import Derived.Deep.Slices
import Derived.DataReads
namespace Go.SX
set_option linter.unusedVariables false
set_option linter.unusedSimpArgs false

/-- A step of the proof alone: the state may be told in one of the ways of C. -/
structure Gh1 (s : St) (T : List Nat) (C : (SV → SV) → St → Prop) : Prop where
  out : ∀ E ρ w, Ag E ρ s.H s.G w → ∃ g s' ρ', C g s' ∧ Ag E ρ' s'.H s'.G w ∧ (∀ sv v, Rv ρ sv v → Rv ρ' (g sv) v) ∧ (∀ zs, Rvs ρ s.fr zs → Rvs ρ' s'.fr zs) ∧
    (∀ (i : Nat) x, i ∉ T → ρ[i]? = some x → ρ'[i]? = some x) ∧ (∀ (i : Nat) y b, ρ'[i]? = some y → blkOf y = some b → ρ[i]? = some y) ∧ Ghe s.G s'.G

section
variable {E : Env} {ρ : List Value} {H : List Ob} {G : Gh} {w : World}

theorem Fp.gh1 {ρ ρ' ρ'' : List Value} {G G' G'' : Gh} {T T' : List Nat} {w w' : World} (hid : ∀ (i : Nat) x, i ∉ T → ρ[i]? = some x → ρ'[i]? = some x) (hb : ∀ (i : Nat) y b, ρ'[i]? = some y → blkOf y = some b → ρ[i]? = some y) (hg : Ghe G G')
    (h : Fp ρ' ρ'' G' G'' T' w w') : Fp ρ ρ'' G G'' (T ++ T') w w' := by
  refine ⟨fun b hl hn => h.blk b hl fun i hi x hx he => ?_, fun i x hi hx => h.ids i x (fun hh => hi (List.mem_append_right _ hh)) (hid i x (fun hh => hi (List.mem_append_left _ hh)) hx), fun b o ho => h.gh b o (hg b o ho)⟩
  exact hn i (List.mem_append_right _ hi) x (hb i x b hx he) he

theorem loop_gh {P : Program} {body : Code} {s : St} {K : Kont} {T : List Nat} {C : (SV → SV) → St → Prop} (hc : Gh1 s T C) (h : ∀ g s', C g s' → LoopVC P E body s' K) : LoopVC P E body s K := by
  refine ⟨fun Q hW0 hK ρ a w hA hF hd => ?_⟩
  obtain ⟨g, s', ρ', hC, hA', _, hF', _⟩ := hc.out E ρ w hA
  exact (h g s' hC).out Q hW0 hK ρ' a w hA' (hF' _ hF) hd

theorem fin_gh {Post : SV → List Ob → Gh → Prop} {sv : SV} {s : St} {T : List Nat} {C : (SV → SV) → St → Prop} (hc : Gh1 s T C) (h : ∀ g s', C g s' → Fin E Post (g sv) s') : Fin E Post sv s := by
  refine ⟨fun ρ w v hA hr => ?_⟩
  obtain ⟨g, s', ρ', hC, hA', hg, _⟩ := hc.out E ρ w hA
  exact (h g s' hC).out ρ' w v hA' (hg _ _ hr)

def svmap (g : SV → SV) : List SV → List SV
  | [] => []
  | x :: xs => g x :: svmap g xs
theorem Rvs.svmap {ρ ρ' : List Value} {g : SV → SV} (hg : ∀ sv v, Rv ρ sv v → Rv ρ' (g sv) v) : ∀ {xs : List SV} {ys : List Value}, Rvs ρ xs ys → Rvs ρ' (svmap g xs) ys
  | [], _, h => by simpa [Rvs, SX.svmap] using h
  | x :: xs, _, h => by
    simp only [Rvs, SX.svmap] at h ⊢
    obtain ⟨y, yt, rfl, h1, h2⟩ := h
    exact ⟨y, yt, rfl, hg _ _ h1, Rvs.svmap hg h2⟩

theorem call_gh {P : Program} {f : FuncId} {args : List SV} {s : St} {K : List Nat → SV → St → Prop} {T : List Nat} {C : (SV → SV) → St → Prop} (hc : Gh1 s T C)
    (he : ∀ (args : Array Value) (w : World), (callFunc f args).run P w = .ok (.enter f args) w)
    (h : ∀ g s', C g s' → CallVC P E f (svmap g args) s' fun T' => K (T ++ T')) : CallVC P E f args s K := by
  refine ⟨he, fun ρ w ys hA hargs => ?_⟩
  obtain ⟨g, s', ρ', hC, hA', hg, hF', hid, hb, hge⟩ := hc.out E ρ w hA
  refine ((h g s' hC).calls ρ' w ys hA' (hargs.svmap hg)).mono fun e w' hh => ?_
  rcases hh with ⟨v, T', sv, s2, ρ2, rfl, hk, hA2, hr, hfr, hfp⟩ | hp
  case inr => exact .inr hp
  exact .inl ⟨v, T ++ T', sv, s2, ρ2, rfl, hk, hA2, hr, fun zs hz => hfr zs (hF' zs hz), hfp.gh1 hid hb hge⟩

/-- Two steps. -/
theorem Gh1.then_ {s : St} {T T' : List Nat} {C : (SV → SV) → St → Prop} {D : (SV → SV) → St → (SV → SV) → St → Prop} (h : Gh1 s T C) (h' : ∀ g s', C g s' → Gh1 s' T' (D g s')) :
    Gh1 s (T ++ T') fun g2 s2 => ∃ g s' g', C g s' ∧ D g s' g' s2 ∧ g2 = fun x => g' (g x) := by
  refine ⟨fun E ρ w hA => ?_⟩
  obtain ⟨g, s', ρ', hC, hA', hg, hF, hid, hb, hge⟩ := h.out E ρ w hA
  obtain ⟨g', s2, ρ2, hD, hA2, hg', hF', hid', hb', hge'⟩ := (h' g s' hC).out E ρ' w hA'
  exact ⟨fun x => g' (g x), s2, ρ2, ⟨g, s', g', hC, hD, rfl⟩, hA2, fun sv v hr => hg' _ _ (hg _ _ hr), fun zs hz => hF' zs (hF zs hz),
    fun i x hi hx => hid' i x (fun hh => hi (List.mem_append_right _ hh)) (hid i x (fun hh => hi (List.mem_append_left _ hh)) hx),
    fun i y b hy he => hb i y b (hb' i y b hy he) he, fun b o ho => hge' b o (hge b o ho)⟩

/-- An object is done. -/
def fzSt (k : Nat) (x : Value) (s : St) (G' : Gh) : St := ⟨fzs k x s.fr, (obfz k x s.H).set k .gone, G'⟩
theorem gh_done {s : St} (i : Nat) {e sz n : Nat} {xs : List Value} (hH : nth s.H i = some (.row e sz n xs)) (h1 : ∀ v ∈ xs, v.oneCell' = true) :
    Gh1 s [i] fun g s' => ∃ A c G', Ghe s.G G' ∧ Sl G' A n c sz xs ∧ g = SV.fz i (.slice A n c) ∧ s' = fzSt i (.slice A n c) s G' := by
  refine ⟨fun E ρ w hA => ?_⟩
  rw [nth_eq] at hH
  obtain ⟨A, c, G', hρ, hg, hsl, hA'⟩ := hA.done hH h1
  refine ⟨_, _, ρ.set i .nilFunc, ⟨A, c, G', hg, hsl, rfl, rfl⟩, by unfold fzSt; rw [obfz_eq]; exact hA', fun sv v hr => hr.fz_ hρ _, fun zs hz => hz.fz_ hρ _, fun j x hj hx => ?_, fun j y b hy hb => ?_, hg⟩
  · rw [List.getElem?_set_ne (fun e => hj (by simp [e]))]; exact hx
  · by_cases hij : i = j
    · subst hij
      rw [List.getElem?_set_self (List.getElem?_eq_some_iff.1 hρ).1] at hy
      simp at hy; subst hy; simp [blkOf] at hb
    · rw [List.getElem?_set_ne hij] at hy; exact hy

theorem svmap_fz (i : Nat) (x : Value) : ∀ l : List SV, svmap (SV.fz i x) l = fzs i x l
  | [] => rfl
  | y :: ys => by simp [SX.svmap, fzs, svmap_fz i x ys]
theorem call_fz {P : Program} {f : FuncId} {args : List SV} {s : St} {K : List Nat → SV → St → Prop} (i : Nat) {e sz n : Nat} {xs : List Value} (hH : nth s.H i = some (.row e sz n xs)) (h1 : ∀ v ∈ xs, v.oneCell' = true)
    (he : ∀ (args : Array Value) (w : World), (callFunc f args).run P w = .ok (.enter f args) w)
    (h : ∀ A c G', Ghe s.G G' → Sl G' A n c sz xs → forceL (fzs i (.slice A n c) args) fun args' => forceL (fzs i (.slice A n c) s.fr) fun fr' => forceObs ((obfz i (.slice A n c) s.H).set i .gone) fun H' => CallVC P E f args' ⟨fr', H', G'⟩ fun T' => K (i :: T')) : CallVC P E f args s K := by
  refine call_gh (gh_done i hH h1) he ?_
  rintro _ _ ⟨A, c, G', hg, hs, rfl, rfl⟩
  have := h A c G' hg hs
  rw [forceL_eq, forceL_eq, forceObs_eq] at this
  rw [svmap_fz]
  exact this
theorem loop_fz {P : Program} {body : Code} {s : St} {K : Kont} (i : Nat) {e sz n : Nat} {xs : List Value} (hH : nth s.H i = some (.row e sz n xs)) (h1 : ∀ v ∈ xs, v.oneCell' = true)
    (h : ∀ A c G', Ghe s.G G' → Sl G' A n c sz xs → forceL (fzs i (.slice A n c) s.fr) fun fr' => forceObs ((obfz i (.slice A n c) s.H).set i .gone) fun H' => LoopVC P E body ⟨fr', H', G'⟩ K) : LoopVC P E body s K := by
  refine loop_gh (gh_done i hH h1) ?_
  rintro _ _ ⟨A, c, G', hg, hs, rfl, rfl⟩
  have := h A c G' hg hs
  rw [forceL_eq, forceObs_eq] at this
  exact this
theorem fin_fz {Post : SV → List Ob → Gh → Prop} {sv : SV} {s : St} (i : Nat) {e sz n : Nat} {xs : List Value} (hH : nth s.H i = some (.row e sz n xs)) (h1 : ∀ v ∈ xs, v.oneCell' = true)
    (h : ∀ A c G', Ghe s.G G' → Sl G' A n c sz xs → forceSV (sv.fz i (.slice A n c)) fun sv' => forceL (fzs i (.slice A n c) s.fr) fun fr' => forceObs ((obfz i (.slice A n c) s.H).set i .gone) fun H' => Fin E Post sv' ⟨fr', H', G'⟩) : Fin E Post sv s := by
  refine fin_gh (gh_done i hH h1) ?_
  rintro _ _ ⟨A, c, G', hg, hs, rfl, rfl⟩
  have := h A c G' hg hs
  rw [forceSV_eq, forceL_eq, forceObs_eq] at this
  exact this
/-- A nil slice as an object of its own. -/
theorem Ag.birth (hA : Ag E ρ H G w) (e sz : Nat) : Ag E (ρ ++ [.slice none 0 0]) (H ++ [.row e sz 0 []]) G w := by
  refine hA.push ⟨rfl, rfl, rfl, Nat.le_refl _, fun _ _ _ => rfl⟩ (fun b hb => by simp [blkOf] at hb) ?_
  simp only [ObOK]
  exact World.ownsRow_nil _ _ _ _
theorem birth_back {x : Value} (hx : blkOf x = none) : ∀ (i : Nat) y b, (ρ ++ [x])[i]? = some y → blkOf y = some b → ρ[i]? = some y := by
  intro i y b hy hb
  rcases Nat.lt_or_ge i ρ.length with hi | hi
  · rwa [List.getElem?_append_left hi] at hy
  · rw [List.getElem?_append_right hi] at hy
    rcases Nat.eq_zero_or_pos (i - ρ.length) with h0 | h0
    · rw [h0] at hy; simp at hy; subst hy; rw [hx] at hb; simp at hb
    · rw [List.getElem?_eq_none (by simp; omega)] at hy; simp at hy
theorem ext_ids {l : List Value} : ∀ (i : Nat) x, ρ[i]? = some x → (ρ ++ l)[i]? = some x := fun i x hx => by
  rw [List.getElem?_append_left (List.getElem?_eq_some_iff.1 hx).1]; exact hx
/-- ... in a slot of the frame. -/
theorem gh_birth {s : St} (t : Nat) (e sz : Nat) (hf : nth s.fr t = some (.v (.slice none 0 0))) :
    Gh1 s [] fun g s' => g = (fun x => x) ∧ s' = ⟨s.fr.set t (.s s.H.length), s.H ++ [.row e sz 0 []], s.G⟩ := by
  refine ⟨fun E ρ w hA => ?_⟩
  rw [nth_eq] at hf
  refine ⟨_, _, ρ ++ [.slice none 0 0], ⟨rfl, rfl⟩, hA.birth e sz, fun sv v hr => hr.ext, fun zs hz => ?_, fun i x _ hx => ext_ids i x hx, birth_back rfl, fun _ _ h => h⟩
  obtain ⟨y, hy, hr⟩ := hz.get hf
  simp only [Rv] at hr; subst hr
  have h1 := Rvs.set_ (ρ := ρ ++ [.slice none 0 0]) (x := .s s.H.length) (y := .slice none 0 0) (by simp only [Rv]; rw [← hA.len]; simp) (k := t) (hz.ext (l := [.slice none 0 0]))
  have he : zs.set t (.slice none 0 0) = zs := by
    apply List.ext_getElem?
    intro k
    by_cases hk : t = k
    · subst hk; rw [List.getElem?_set_self (List.getElem?_eq_some_iff.1 hy).1, hy]
    · rw [List.getElem?_set_ne hk]
  rwa [he] at h1
/-- ... in a cell of an object. -/
theorem gh_birthC {s : St} (i k : Nat) (e sz : Nat) {T : TypeId} {xs : List SV} (hH : nth s.H i = some (.cells T xs)) (hf : nth xs k = some (.v (.slice none 0 0))) :
    Gh1 s [] fun g s' => g = (fun x => x) ∧ s' = ⟨s.fr, s.H.set i (.cells T (xs.set k (.s s.H.length))) ++ [.row e sz 0 []], s.G⟩ := by
  refine ⟨fun E ρ w hA => ?_⟩
  rw [nth_eq] at hf hH
  have hi : i < s.H.length := (List.getElem?_eq_some_iff.1 hH).1
  have hiρ : i < ρ.length := by rw [hA.len]; exact hi
  have hρ := List.getElem?_eq_getElem hiρ
  obtain ⟨b, cs, hx, hblk, hr⟩ := hA.obs i _ _ hH hρ
  have hcs : Rvs (ρ ++ [.slice none 0 0]) (xs.set k (.s s.H.length)) cs.toList := by
    obtain ⟨y, hy, hr1⟩ := hr.get hf
    simp only [Rv] at hr1; subst hr1
    have h1 := Rvs.set_ (ρ := ρ ++ [.slice none 0 0]) (x := .s s.H.length) (y := .slice none 0 0) (by simp only [Rv]; rw [← hA.len]; simp) (k := k) (hr.ext (l := [.slice none 0 0]))
    have he : cs.toList.set k (.slice none 0 0) = cs.toList := by
      apply List.ext_getElem?
      intro q
      by_cases hk : k = q
      · subst hk; rw [List.getElem?_set_self (List.getElem?_eq_some_iff.1 hy).1, hy]
      · rw [List.getElem?_set_ne hk]
    rwa [he] at h1
  have hb := hA.birth e sz
  have h2 : Ag E (ρ ++ [.slice none 0 0]) ((s.H ++ [Ob.row e sz 0 []]).set i (Ob.cells T (xs.set k (.s s.H.length)))) s.G w :=
    hb.store (x := ρ[i]) (by rw [List.getElem?_append_left hiρ]; exact hρ) ⟨rfl, rfl, rfl, Nat.le_refl _, fun _ _ _ => rfl⟩ (by simp only [ObOK]; exact ⟨b, cs, hx, hblk, hcs⟩)
  rw [List.set_append_left _ _ hi] at h2
  exact ⟨_, _, ρ ++ [.slice none 0 0], ⟨rfl, rfl⟩, h2, fun sv v hr => hr.ext, fun zs hz => hz.ext, fun i x _ hx => ext_ids i x hx, birth_back rfl, fun _ _ h => h⟩

/-- A literal whose elements are all known is a slice of values. -/
theorem gh_lit {s : St} (i : Nat) {e n : Nat} {zs : List SV} {ys : List Value} (sz : Nat) (hH : nth s.H i = some (.lit e n zs)) (hv : valsOf zs = some ys) (hl : ys.length = n * sz) (hm : n ≤ maxLen) :
    Gh1 s [] fun g s' => g = (fun x => x) ∧ s' = ⟨s.fr, s.H.set i (.row e sz n ys), s.G⟩ := by
  refine ⟨fun E ρ w hA => ?_⟩
  rw [nth_eq] at hH
  have hi : i < s.H.length := (List.getElem?_eq_some_iff.1 hH).1
  have hiρ : i < ρ.length := by rw [hA.len]; exact hi
  have hρ := List.getElem?_eq_getElem hiρ
  obtain ⟨b, cs, hx, hblk, hr⟩ := hA.obs i _ _ hH hρ
  have hcs := valsOf_ok hv hr
  have h2 : Ag E ρ (s.H.set i (.row e sz n ys)) s.G w :=
    hA.store hρ ⟨rfl, rfl, rfl, Nat.le_refl _, fun _ _ _ => rfl⟩ (by
      simp only [ObOK]
      exact ⟨hl, .inr ⟨b, n, cs, hx, Nat.zero_le _, hblk, Nat.le_refl _, hm, by rw [← hl, ← hcs]; simp, by rw [hcs, ← hl]; simp⟩⟩)
  exact ⟨_, _, ρ, ⟨rfl, rfl⟩, h2, fun sv v hr => hr, fun zs hz => hz, fun i x _ hx => hx, fun _ _ _ h _ => h, fun _ _ h => h⟩

theorem svmap_id : ∀ l : List SV, svmap (fun x => x) l = l
  | [] => rfl
  | y :: ys => by simp [SX.svmap, svmap_id ys]
theorem call_lit {P : Program} {f : FuncId} {args : List SV} {s : St} {K : List Nat → SV → St → Prop} (i : Nat) {e n : Nat} {zs : List SV} {ys : List Value} (sz : Nat) (hH : nth s.H i = some (.lit e n zs)) (hv : valsOf zs = some ys) (hl : ys.length = n * sz) (hm : n ≤ maxLen)
    (he : ∀ (args : Array Value) (w : World), (callFunc f args).run P w = .ok (.enter f args) w)
    (h : forceSp (s.H.set i (.row e sz n ys)) fun H' => CallVC P E f args ⟨s.fr, H', s.G⟩ fun T' => K T') : CallVC P E f args s K := by
  refine call_gh (gh_lit i sz hH hv hl hm) he ?_
  rintro _ _ ⟨rfl, rfl⟩
  rw [forceSp_eq] at h
  rw [svmap_id]
  exact h
/-! ### calls that only look -/
mutual
def cl : SV → Bool
  | .v _ => true
  | .p _ _ => false
  | .s _ => false
  | .f _ a c => cls a && cls c
  | .agg xs => cls xs
  | .tup xs => cls xs
  | .lit _ => true
  | .dead => true
def cls : List SV → Bool
  | [] => true
  | x :: xs => cl x && cls xs
end
mutual
theorem Rv.closed {ρ ρ' : List Value} : ∀ {x : SV} {y : Value}, cl x = true → Rv ρ x y → Rv ρ' x y
  | .v _, _, _, h => by simpa [Rv] using h
  | .p _ _, _, h, _ => by simp [cl] at h
  | .s _, _, h, _ => by simp [cl] at h
  | .f fn a c, _, hc, h => by
    simp only [cl, Bool.and_eq_true] at hc
    simp only [Rv] at h ⊢
    obtain ⟨a', c', rfl, h1, h2⟩ := h
    exact ⟨a', c', rfl, Rvs.closed hc.1 h1, Rvs.closed hc.2 h2⟩
  | .agg xs, _, hc, h => by
    simp only [cl] at hc
    simp only [Rv] at h ⊢
    obtain ⟨ys, rfl, h1⟩ := h
    exact ⟨ys, rfl, Rvs.closed hc h1⟩
  | .tup xs, _, hc, h => by
    simp only [cl] at hc
    simp only [Rv] at h ⊢
    obtain ⟨ys, rfl, h1⟩ := h
    exact ⟨ys, rfl, Rvs.closed hc h1⟩
  | .lit _, _, _, h => by simpa [Rv] using h
  | .dead, _, _, _ => by simp [Rv]
theorem Rvs.closed {ρ ρ' : List Value} : ∀ {xs : List SV} {ys : List Value}, cls xs = true → Rvs ρ xs ys → Rvs ρ' xs ys
  | [], _, _, h => by simpa [Rvs] using h
  | x :: xs, _, hc, h => by
    simp only [cls, Bool.and_eq_true] at hc
    simp only [Rvs] at h ⊢
    obtain ⟨y, yt, rfl, h1, h2⟩ := h
    exact ⟨y, yt, rfl, Rv.closed hc.1 h1, Rvs.closed hc.2 h2⟩
end
theorem Ag.later (h : Ag E ρ H G w) {w' : World} (hb : ∀ b, b < w.heap.size → w'.heap[b]? = w.heap[b]?) (hs : w.heap.size ≤ w'.heap.size) (h1 : w'.os = w.os) (h2 : w'.tape = w.tape) (h3 : w'.output = w.output) : Ag E ρ H G w' := by
  refine ⟨h.len, fun i ob x ho hx => (h.obs i ob x ho hx).mono fun b hbx => hb b (h.own i x b hx hbx).1, h.apart, fun i x b hx hbx => ?_, fun b o ho => ?_, fun b hl hF => ?_, Nat.le_trans h.size hs, h1.trans h.os, h2.trans h.tape, h3.trans h.output, h.old, h.gold, h.gnew⟩
  · obtain ⟨a, b', c⟩ := h.own i x b hx hbx
    exact ⟨Nat.lt_of_lt_of_le a hs, b', c⟩
  · have := h.ext b o ho
    rw [hb b (by rw [Array.getElem?_eq_some_iff] at this; exact this.1)]; exact this
  · rw [hb b (Nat.lt_of_lt_of_le hl h.size)]; exact h.frame b hl hF
/-- A call that only looks at what the caller has: the state behind it is the state ahead of it. -/
theorem call_look {P : Program} {f : FuncId} {args : List SV} {s : St} {K : List Nat → SV → St → Prop} {T : List Nat} {C : (SV → SV) → St → Prop} (hc : Gh1 s T C) (Q : SV → Prop)
    (he : ∀ (args : Array Value) (w : World), (callFunc f args).run P w = .ok (.enter f args) w)
    (h : ∀ g s', C g s' → ∃ args0 Post, svmap g args = args0 ∧ cls args0 = true ∧ Ct P f args0 [] s'.G Post ∧ ∀ sv H' G', Post sv H' G' → cl sv = true ∧ Q sv) (hK : ∀ sv, Q sv → K [] sv s) : CallVC P E f args s K := by
  refine ⟨he, fun ρ w ys hA hargs => ?_⟩
  obtain ⟨g, s', ρ', hC, hA', hg, _⟩ := hc.out E ρ w hA
  obtain ⟨args0, Post, hargs0, hcl, hct, hpost⟩ := h g s' hC
  have h0 : Ag (Fr w [] s'.G) [] [] s'.G w := by
    have := hA'.sub (m := []) (H0 := []) trivial (by simp)
    exact this
  have ha : Rvs [] args0 ys := by rw [← hargs0] at hcl ⊢; exact Rvs.closed hcl (hargs.svmap hg)
  refine (hct.calls [] w ys h0 ha).mono fun e w' hh => ?_
  obtain ⟨v, sv, H', G', ρ2, rfl, hp, hA2, hr⟩ := hh
  obtain ⟨hcs, hq⟩ := hpost sv H' G' hp
  have hfr : ∀ b, b < w.heap.size → w'.heap[b]? = w.heap[b]? := fun b hb => hA2.frame b hb (fun ⟨i, x, hx, _⟩ => by simp at hx)
  exact .inl ⟨v, [], sv, s, ρ, rfl, hK sv hq, hA.later hfr hA2.size hA2.os hA2.tape hA2.output, Rv.closed hcs hr, fun zs hz => hz, fun b hb _ => hfr b hb, fun _ _ _ h => h, fun _ _ h => h⟩
theorem gh_no (s : St) : Gh1 s [] fun g s' => g = (fun x => x) ∧ s' = s :=
  ⟨fun E ρ w hA => ⟨_, _, ρ, ⟨rfl, rfl⟩, hA, fun _ _ h => h, fun _ h => h, fun _ _ _ h => h, fun _ _ _ h _ => h, fun _ _ h => h⟩⟩

/-! ### lending -/
/-- Nothing is known of A's block any more. -/
def rmG (A : Option Addr) (G : Gh) : Gh := fun b => match A with
  | some ad => if ad.block = b then none else G b
  | none => G b
theorem rmG_some {A : Option Addr} {G : Gh} {b : Nat} {o : Obj} (h : rmG A G b = some o) : G b = some o := by
  unfold rmG at h
  cases A with
  | none => exact h
  | some ad => simp only at h; split at h <;> simp_all
theorem rmG_ne {A : Option Addr} {G : Gh} {b : Nat} (h : ∀ ad, A = some ad → ad.block ≠ b) : rmG A G b = G b := by
  unfold rmG
  cases A with
  | none => rfl
  | some ad => simp only; rw [if_neg (h ad rfl)]
theorem rmG_eq {A : Option Addr} {G : Gh} {b : Nat} (h : ∃ ad, A = some ad ∧ ad.block = b) : rmG A G b = none := by
  obtain ⟨ad, rfl, hb⟩ := h
  simp [rmG, hb]
theorem Sl.rm {G : Gh} {A B : Option Addr} {n c sz : Nat} {cs : List Value} (h : Sl G A n c sz cs) (hne : ∀ a b, A = some a → B = some b → a.block ≠ b.block) : Sl (rmG B G) A n c sz cs := by
  refine ⟨h.len, h.cap, h.top, fun ad had j v hj => ?_, h.nil, h.ones⟩
  have h1 := h.there ad had j v hj
  have hb : (ad.add j).block = ad.block := by unfold Addr.add; split <;> rfl
  unfold Gcell at h1 ⊢
  rw [rmG_ne (fun b hB => by rw [hb]; exact fun e => hne ad b had hB e.symm)]
  exact h1
/-- What is known of A ahead of a block that is lent stays known. -/
theorem Sl.back {G G1 G2 : Gh} {A B : Option Addr} {n c sz : Nat} {cs : List Value} (h : Sl G A n c sz cs) (hg : Ghe G G2) (hB : Fresh G B) : Sl (rmG B G2) A n c sz cs := by
  refine ⟨h.len, h.cap, h.top, fun ad had j v hj => ?_, h.nil, h.ones⟩
  have h1 := h.there ad had j v hj
  unfold Gcell at h1 ⊢
  cases hb : G (ad.add j).block with
  | none => simp [hb] at h1
  | some o =>
    rw [rmG_ne (fun b hBb e => by have := hB b hBb; rw [e, hb] at this; simp at this), hg _ _ hb]
    rw [hb] at h1; exact h1
theorem Ghe.back {G G2 : Gh} {B : Option Addr} (hg : Ghe G G2) (hB : Fresh G B) : Ghe G (rmG B G2) := fun b o ho => by
  rw [rmG_ne (fun a ha e => by have := hB a ha; rw [e, ho] at this; simp at this)]; exact hg b o ho
def obkill (i : Nat) : List Ob → List Ob
  | [] => []
  | ob :: l => ob.kill i :: obkill i l
theorem obkill_eq (i : Nat) : ∀ l, obkill i l = l.map (·.kill i)
  | [] => rfl
  | ob :: l => by simp [obkill, obkill_eq i l]
theorem Ag.thaw (h : Ag E ρ H G w) {i n c : Nat} {A : Option Addr} {ob : Ob} (hi : ρ[i]? = some .nilFunc) (hob : ObOK (ρ.set i (.slice A n c)) w ob (.slice A n c))
    (hb : ∀ ad, A = some ad → ad.block < w.heap.size ∧ (E.w0.heap.size ≤ ad.block ∨ E.F ad.block) ∧ E.G0 ad.block = none ∧ ∀ (j : Nat) y, ρ[j]? = some y → blkOf y ≠ some ad.block) :
    Ag E (ρ.set i (.slice A n c)) ((obkill i H).set i ob) (rmG A G) w := by
  have hil : i < ρ.length := (List.getElem?_eq_some_iff.1 hi).1
  have hiH : i < H.length := by rw [← h.len]; exact hil
  have hblk : ∀ b, blkOf (.slice A n c) = some b → ∃ ad, A = some ad ∧ ad.block = b := fun b hb => by
    cases A with
    | none => simp [blkOf] at hb
    | some ad => exact ⟨ad, rfl, by simpa [blkOf] using hb⟩
  have hget : ∀ (j : Nat) y, (ρ.set i (.slice A n c))[j]? = some y → (j = i ∧ y = .slice A n c) ∨ (j ≠ i ∧ ρ[j]? = some y) := by
    intro j y hy
    by_cases hj : i = j
    · subst hj; rw [List.getElem?_set_self hil] at hy; simp at hy; exact .inl ⟨rfl, hy.symm⟩
    · rw [List.getElem?_set_ne hj] at hy; exact .inr ⟨fun e => hj e.symm, hy⟩
  refine ⟨by simp [h.len, obkill_eq], ?_, ?_, ?_, fun b o ho => h.ext b o (rmG_some ho), h.frame, h.size, h.os, h.tape, h.output, ?_, ?_, fun b o ho => h.gnew b o (rmG_some ho)⟩
  · intro j ob' y hob' hy
    rcases hget j y hy with ⟨rfl, rfl⟩ | ⟨hj, hy'⟩
    · rw [List.getElem?_set_self (by rw [obkill_eq]; simpa using hiH)] at hob'
      simp at hob'; subst hob'; exact hob
    · rw [List.getElem?_set_ne (fun e => hj e.symm), obkill_eq, List.getElem?_map] at hob'
      obtain ⟨ob0, h0, rfl⟩ := Option.map_eq_some_iff.1 hob'
      exact (h.obs j ob0 y h0 hy').kill_
  · intro j k y z b hy hz hyb hzb
    rcases hget j y hy with ⟨rfl, rfl⟩ | ⟨hj, hy'⟩ <;> rcases hget k z hz with ⟨rfl, rfl⟩ | ⟨hk, hz'⟩
    · rfl
    · obtain ⟨ad, had, rfl⟩ := hblk b hyb; exact absurd hzb ((hb ad had).2.2.2 k z hz')
    · obtain ⟨ad, had, rfl⟩ := hblk b hzb; exact absurd hyb ((hb ad had).2.2.2 j y hy')
    · exact h.apart j k y z b hy' hz' hyb hzb
  · intro j y b hy hyb
    rcases hget j y hy with ⟨rfl, rfl⟩ | ⟨hj, hy'⟩
    · obtain ⟨ad, had, rfl⟩ := hblk b hyb
      exact ⟨(hb ad had).1, rmG_eq ⟨ad, had, rfl⟩, (hb ad had).2.1⟩
    · obtain ⟨h1, h2, h3⟩ := h.own j y b hy' hyb
      refine ⟨h1, ?_, h3⟩
      cases hr : rmG A G b with
      | none => rfl
      | some o => rw [rmG_some hr] at h2; simp at h2
  · intro j a hj
    have h1 := h.old j a hj
    have hji : i ≠ j := fun e => by subst e; rw [hi] at h1; simp at h1
    rw [List.getElem?_set_ne hji]; exact h1
  · intro b o ho
    rw [rmG_ne (fun ad had e => by have := (hb ad had).2.2.1; rw [e, ho] at this; simp at this)]
    exact h.gold b o ho
def lendEnd (i : Nat) (ob : Ob) (X : Value) (m : List Nat) (s : St) (sv : SV) (H' : List Ob) (G : Gh) (K : List Nat → SV → St → Prop) : Prop :=
  s.un fun fr H _ => forceObs ((obfz i X H).set i .gone) fun H1 =>
    forceL (maps (km (killOf H1 m)) fr) fun fr' =>
      forceObs ((obkill i (setAll (obmaps (km (killOf H1 m)) H1) m (obmaps (rn m H1.length) H') ++ (obmaps (rn m H1.length) H').drop m.length)).set i ob) fun H2 =>
        forceSV ((sv.map (rn m H1.length)).kill i) fun sv' => K (i :: m) sv' ⟨fr', H2, G⟩
theorem killOf_sub {H : List Ob} : ∀ {m : List Nat} {k : Nat}, k ∈ killOf H m → k ∈ m
  | [], k, h => by simp [killOf] at h
  | k0 :: ks, k, h => by
    simp only [killOf] at h
    split at h
    · exact List.mem_cons_of_mem _ (killOf_sub h)
    · rcases List.mem_cons.1 h with rfl | h
      · simp
      · exact List.mem_cons_of_mem _ (killOf_sub h)
/-- A call to which the caller lends a slice of its own: the callee only looks at it. -/
theorem call_lend {P : Program} {f : FuncId} {args : List SV} {s : St} {K : List Nat → SV → St → Prop} (i : Nat) (m : List Nat) {e sz n : Nat} {xs : List Value} (hH : nth s.H i = some (.row e sz n xs)) (h1 : ∀ v ∈ xs, v.oneCell' = true)
    (him : memN i m = false) (hm : m.Nodup) (he : ∀ (args : Array Value) (w : World), (callFunc f args).run P w = .ok (.enter f args) w)
    (h : ∀ A c G1, Ghe s.G G1 → Fresh s.G A → (∀ ad, A = some ad → ∃ o, G1 ad.block = some o) → Sl G1 A n c sz xs → ∃ args0 H0 Post, fzs i (.slice A n c) args = maps (rn m s.H.length) args0 ∧ subH m s.H.length ((obfz i (.slice A n c) s.H).set i .gone) m H0 ∧ Ct P f args0 H0 G1 Post ∧
      ∀ sv H' G2, Post sv H' G2 → Ghe G1 G2 → m.length ≤ H'.length ∧ lendEnd i (.row e sz n xs) (.slice A n c) m s sv H' (rmG A G2) K) : CallVC P E f args s K := by
  have him' : i ∉ m := fun hh => by rw [memN_iff.2 hh] at him; simp at him
  refine ⟨he, fun ρ w ys hA hargs => ?_⟩
  rw [nth_eq] at hH
  have hi : i < ρ.length := by rw [hA.len]; exact (List.getElem?_eq_some_iff.1 hH).1
  obtain ⟨A, c, G1, hρ, hg, hfr, hin, hsl, hA1⟩ := hA.done4 hH h1
  obtain ⟨args0, H0, Post, ha0, hs0, hct, hpost⟩ := h A c G1 hg hfr hin hsl
  have hlen1 : ((obfz i (.slice A n c) s.H).set i .gone).length = s.H.length := by rw [obfz_eq]; simp
  rw [← obfz_eq] at hA1
  have hsub := hA1.sub (m := m) (H0 := H0) (by rw [hlen1]; exact hs0) hm
  have hargs1 := hargs.fz_ hρ .nilFunc
  rw [ha0] at hargs1
  have hbwd := Rvs.bwd (by have := rn_bwd (m := m) hA1.len; rw [hlen1] at this; exact this) hargs1
  refine (hct.calls _ w ys hsub hbwd).mono fun e' w' hh => ?_
  obtain ⟨v, sv, H', G2, ρa, rfl, hp, hA2, hr⟩ := hh
  have hg12 : Ghe G1 G2 := hA2.gold
  obtain ⟨hlen, hend⟩ := hpost sv H' G2 hp hg12
  obtain ⟨ρ2, hB, hr2, hkm, hfp⟩ := hA1.back (by rw [hlen1]; exact hs0) hm hlen hA2
  -- the lent row is back
  have hi2 : ρ2[i]? = some .nilFunc := hfp.ids i .nilFunc him' (by rw [List.getElem?_set_self hi])
  have hob := hA.obs i _ _ hH hρ
  have hblkL : ∀ b, blkOf (.slice A n c) = some b → ∃ ad, A = some ad ∧ ad.block = b := fun b hb => by
    cases A with
    | none => simp [blkOf] at hb
    | some ad => exact ⟨ad, rfl, by simpa [blkOf] using hb⟩
  have hkeep : ∀ b, blkOf (.slice A n c) = some b → w'.heap[b]? = w.heap[b]? := fun b hb => by
    obtain ⟨ad, had, rfl⟩ := hblkL b hb
    obtain ⟨o, ho⟩ := hin ad had
    rw [hA1.ext _ _ ho, hB.ext _ _ (hg12 _ _ ho)]
  have hrow : ObOK (ρ2.set i (.slice A n c)) w' (.row e sz n xs) (.slice A n c) := (show ObOK (ρ2.set i (.slice A n c)) w (.row e sz n xs) (.slice A n c) from hob).mono hkeep
  have hblkA : ∀ ad, A = some ad → ad.block < w'.heap.size ∧ (E.w0.heap.size ≤ ad.block ∨ E.F ad.block) ∧ E.G0 ad.block = none ∧ ∀ (j : Nat) y, ρ2[j]? = some y → blkOf y ≠ some ad.block := by
    intro ad had
    subst had
    obtain ⟨h4, h5, h6⟩ := hA.own i _ ad.block hρ rfl
    refine ⟨Nat.lt_of_lt_of_le h4 hA2.size, h6, ?_, fun j y hy hyb => ?_⟩
    · cases hq : E.G0 ad.block with
      | none => rfl
      | some o => have := hA.gold _ _ hq; rw [h5] at this; simp at this
    · obtain ⟨o, ho⟩ := hin ad rfl
      have := (hB.own j y ad.block hy hyb).2.1
      rw [hg12 _ _ ho] at this; simp at this
  have hT := hB.thaw hi2 hrow hblkA
  unfold lendEnd at hend
  rw [St.un_eq, forceObs_eq, forceL_eq, forceObs_eq, forceSV_eq] at hend
  have hne1 : ∀ (j : Nat) x, j ≠ i → ρ[j]? = some x → (ρ.set i .nilFunc)[j]? = some x := fun j x hj hx => by rw [List.getElem?_set_ne (fun e => hj e.symm)]; exact hx
  have hne3 : ∀ (j : Nat) x, j ≠ i → ρ2[j]? = some x → (ρ2.set i (.slice A n c))[j]? = some x := fun j x hj hx => by rw [List.getElem?_set_ne (fun e => hj e.symm)]; exact hx
  refine .inl ⟨v, i :: m, _, _, ρ2.set i (.slice A n c), rfl, hend, hT, ?_, fun zs hz => ?_, ?_, fun j x hj hx => ?_, Ghe.back (fun b o ho => hg12 b o (hg b o ho)) hfr⟩
  · exact (Rv.fwd hr2 hr).kill_
  · refine Rvs.fwd (fun j k x hk hx => ?_) hz
    have hjk : k = j := by unfold km at hk; split at hk <;> simp at hk; exact hk.symm
    subst hjk
    by_cases hj : k = i
    · subst hj; rw [hρ] at hx; simp at hx; subst hx; exact List.getElem?_set_self (List.getElem?_eq_some_iff.1 hi2).1
    · exact hne3 k x hj (hkm k k x hk (hne1 k x hj hx))
  · intro b hb hn
    refine hfp.blk b hb fun j hj y hy => ?_
    have hji : j ≠ i := fun e => him' (e ▸ hj)
    rw [List.getElem?_set_ne (fun e => hji e.symm)] at hy
    exact hn j (List.mem_cons_of_mem _ hj) y hy
  · have hji : j ≠ i := fun e => hj (by simp [e])
    exact hne3 j x hji (hfp.ids j x (fun hh => hj (List.mem_cons_of_mem _ hh)) (hne1 j x hji hx))
/-! ### things that are known -/
theorem br_tt {b : Bool} {A B : Prop} (h : b = true) (ha : A) : br b A B := by subst h; exact br_t ha
theorem br_ff {b : Bool} {A B : Prop} (h : b = false) (hb : B) : br b A B := by subst h; exact br_f hb
theorem lit_ix {a b : Int} {n : Int} {A : Prop} (h1 : decide (b ≤ a) = true) (h2 : decide (a < n) = true) (h : A) : (b ≤ a ∧ a < n) ∧ A := ⟨⟨of_decide_eq_true h1, of_decide_eq_true h2⟩, h⟩
theorem ldrow {xs : List Value} {off n : Nat} {K : List Value → Prop} (hl : Nat.beq ((xs.drop off).take n).length n = true) (h : forceSp ((xs.drop off).take n) K) :
    ∃ ys : List Value, ys.length = n ∧ (∀ (j : Nat) v, ys[j]? = some v → xs[off + j]? = some v) ∧ K ys := by
  rw [forceSp_eq] at h
  refine ⟨_, Nat.eq_of_beq_eq_true hl, fun j v hj => ?_, h⟩
  rw [List.getElem?_take] at hj
  split at hj
  · rwa [List.getElem?_drop] at hj
  · simp at hj
def optK {α : Type} : Option α → (α → Prop) → Prop
  | some v, k => k v
  | none, _ => False
theorem ldrow1 {xs : List Value} {off : Nat} {K : Value → Prop} (h : optK (nth xs off) K) : ∃ v, xs[off]? = some v ∧ K v := by
  rw [nth_eq] at h
  cases hx : xs[off]? with
  | none => rw [hx] at h; exact h.elim
  | some v => rw [hx] at h; exact ⟨v, rfl, h⟩
/-! ### loops -/
def dsts : List Oper → Nat → (Nat → Prop) → Prop
  | [], m, k => k m
  | o :: l, m, k => match o.dst with
    | some t => match Nat.succ (Nat.lor m (Nat.shiftLeft 1 t)) with
      | 0 => k m
      | m' + 1 => dsts l m' k
    | none => dsts l m k
/-- The slots that a piece of code writes, as bits. -/
def asg : Code → Nat → (Nat → Prop) → Prop
  | .region _ ops _, m, k => dsts ops.toList m k
  | .seq a b, m, k => asg a m fun m => asg b m k
  | .cond _ a b, m, k => asg a m fun m => asg b m k
  | .block _ c, m, k => asg c m k
  | .loop c, m, k => asg c m k
  | .scope c, m, k => asg c m k
  | _, m, k => k m
def deadF (m : Nat) : Nat → List SV → (List SV → Prop) → Prop
  | _, [], k => k []
  | i, x :: l, k => match Nat.add i 2 with
    | 0 => k []
    | j + 1 => match Nat.beq (Nat.land (Nat.shiftRight m i) 1) 1 with
      | true => deadF m j l fun l' => k (.dead :: l')
      | false => deadF m j l fun l' => k (x :: l')
def putF : List (Nat × SV) → List SV → List SV
  | [], fr => fr
  | (t, x) :: l, fr => putF l (fr.set t x)
/-- The frame of a loop's round: what its body writes is unknown but for these slots. -/
def frL (body : Code) (fr : List SV) (vars : List (Nat × SV)) (k : List SV → Prop) : Prop := asg body 0 fun m => deadF m 0 fr fun fr' => forceL (putF vars fr') k
theorem dsts_eq : ∀ (l : List Oper) (m : Nat), ∃ m', ∀ k, dsts l m k = k m'
  | [], m => ⟨m, fun _ => rfl⟩
  | o :: l, m => by
    simp only [dsts]
    split
    · rename_i t _; obtain ⟨m', h⟩ := dsts_eq l (Nat.lor m (Nat.shiftLeft 1 t)); exact ⟨m', fun k => h k⟩
    · exact dsts_eq l m
theorem asg_eq : ∀ (c : Code) (m : Nat), ∃ m', ∀ k, asg c m k = k m'
  | .region _ ops _, m => dsts_eq ops.toList m
  | .seq a b, m => by obtain ⟨m1, h1⟩ := asg_eq a m; obtain ⟨m2, h2⟩ := asg_eq b m1; exact ⟨m2, fun k => by simp only [asg, h1, h2]⟩
  | .cond _ a b, m => by obtain ⟨m1, h1⟩ := asg_eq a m; obtain ⟨m2, h2⟩ := asg_eq b m1; exact ⟨m2, fun k => by simp only [asg, h1, h2]⟩
  | .block _ c, m => by obtain ⟨m1, h1⟩ := asg_eq c m; exact ⟨m1, fun k => by simp only [asg, h1]⟩
  | .loop c, m => by obtain ⟨m1, h1⟩ := asg_eq c m; exact ⟨m1, fun k => by simp only [asg, h1]⟩
  | .scope c, m => by obtain ⟨m1, h1⟩ := asg_eq c m; exact ⟨m1, fun k => by simp only [asg, h1]⟩
  | .skip, m => ⟨m, fun _ => by simp only [asg]⟩
  | .label _, m => ⟨m, fun _ => by simp only [asg]⟩
  | .ret, m => ⟨m, fun _ => by simp only [asg]⟩
  | .exit _, m => ⟨m, fun _ => by simp only [asg]⟩
  | .rangeFunc _ _ _ _, m => ⟨m, fun _ => by simp only [asg]⟩
  | .goto _, m => ⟨m, fun _ => by simp only [asg]⟩
  | .refuse _, m => ⟨m, fun _ => by simp only [asg]⟩
theorem deadF_eq (m : Nat) : ∀ (fr : List SV) (i : Nat), ∃ fr', ∀ k, deadF m i fr k = k fr'
  | [], i => ⟨[], fun _ => by simp only [deadF]⟩
  | x :: l, i => by
    obtain ⟨l', h⟩ := deadF_eq m l (i + 1)
    have h2 : ∀ k, deadF m i (x :: l) k = match Nat.beq (Nat.land (Nat.shiftRight m i) 1) 1 with
      | true => deadF m (i + 1) l fun l' => k (.dead :: l')
      | false => deadF m (i + 1) l fun l' => k (x :: l') := fun k => by rw [deadF]
    cases hb : Nat.beq (Nat.land (Nat.shiftRight m i) 1) 1 with
    | true => exact ⟨.dead :: l', fun k => by rw [h2, hb]; exact h _⟩
    | false => exact ⟨x :: l', fun k => by rw [h2, hb]; exact h _⟩
theorem frL_eq (body : Code) (fr : List SV) : ∃ f : List (Nat × SV) → List SV, ∀ vars k, frL body fr vars k = k (f vars) := by
  obtain ⟨m, hm⟩ := asg_eq body 0
  obtain ⟨fr', hf⟩ := deadF_eq m fr 0
  exact ⟨fun vars => putF vars fr', fun vars k => by simp only [frL, hm, hf, forceL_eq]⟩
/-- A contract whose end is told in another way. -/
theorem Ct.fin {P : Program} {f : FuncId} {args : List SV} {H : List Ob} {G : Gh} {Post Post' : SV → List Ob → Gh → Prop} (h : Ct P f args H G Post)
    (hf : ∀ (E : Env) sv H' G', E.ρ0.length = H.length → Post sv H' G' → Fin E Post' sv ⟨[], H', G'⟩) : Ct P f args H G Post' := by
  refine ⟨h.enters, fun ρ w ys hA hargs => (h.calls ρ w ys hA hargs).mono fun e w' hh => ?_⟩
  obtain ⟨v, sv, H', G', ρ', rfl, hp, hA', hr⟩ := hh
  obtain ⟨ρ2, H2, G2, sv2, hp2, hA2, hr2⟩ := (hf (Fr w ρ G) sv H' G' hA.len hp).out ρ' w' v hA' hr
  exact ⟨v, sv2, H2, G2, ρ2, rfl, hp2, hA2, hr2⟩
/-! ### a state told in another way -/
/-- The place of an object among those that are kept. -/
def inv : List Nat → Nat → Option Nat
  | [], _ => none
  | k :: ks, i => match Nat.beq k i with
    | true => some 0
    | false => match inv ks i with
      | some j => some (j + 1)
      | none => none
theorem inv_get : ∀ {ks : List Nat} {i j : Nat}, inv ks i = some j → ks[j]? = some i
  | [], i, j, h => by simp [inv] at h
  | k :: ks, i, j, h => by
    simp only [inv] at h
    split at h
    · rename_i hb; simp at h; subst h; simp [Nat.eq_of_beq_eq_true hb]
    · split at h
      · rename_i j' hj; simp at h; subst h; simpa using inv_get hj
      · simp at h
def selOb (keep all : List Nat) (H : List Ob) : List Ob :=
  match keep with
  | [] => []
  | k :: ks => (match nth H k with
    | some ob => ob.map (inv all)
    | none => .gone) :: selOb ks all H
theorem selOb_len (all : List Nat) (H : List Ob) : ∀ keep : List Nat, (selOb keep all H).length = keep.length
  | [] => rfl
  | k :: ks => by simp [selOb, selOb_len all H ks]
theorem selOb_get (all : List Nat) (H : List Ob) : ∀ (keep : List Nat) (i k : Nat) (ob : Ob), keep[i]? = some k → H[k]? = some ob → (selOb keep all H)[i]? = some (ob.map (inv all))
  | [], i, k, ob, h, _ => by simp at h
  | k0 :: ks, 0, k, ob, h, ho => by simp at h; subst h; simp [selOb, nth_eq, ho]
  | k0 :: ks, i + 1, k, ob, h, ho => by simpa [selOb] using selOb_get all H ks i k ob (by simpa using h) ho
def allLt (n : Nat) : List Nat → Bool
  | [] => true
  | k :: ks => ltb k n && allLt n ks
theorem allLt_ok {n : Nat} : ∀ {l : List Nat}, allLt n l = true → ∀ k ∈ l, k < n
  | [], _, k, h => by simp at h
  | k0 :: ks, h, k, hk => by
    simp only [allLt, Bool.and_eq_true] at h
    rcases List.mem_cons.1 hk with rfl | hk
    · exact Nat.le_of_ble_eq_true h.1
    · exact allLt_ok h.2 k hk
theorem Ag.gc (h : Ag E ρ H G w) {n : Nat} (hE : E.ρ0.length = n) {keep : List Nat} (hk : keepc n keep = true) (hlt : allLt H.length keep = true) : Ag E (pick ρ keep) (selOb keep keep H) G w ∧
    ∀ i k x, inv keep i = some k → ρ[i]? = some x → (pick ρ keep)[k]? = some x := by
  simp only [keepc, Bool.and_eq_true, decide_eq_true_eq] at hk
  have hkn : ∀ i, i < n → keep[i]? = some i := fun i hi => by simpa using List.all_eq_true.1 hk.2 i (by simpa using hi)
  have hget : ∀ (i : Nat) x, (pick ρ keep)[i]? = some x → ∃ k, keep[i]? = some k ∧ ρ[k]? = some x := by
    intro i x hx
    obtain ⟨k, hk', rfl⟩ := pick_get hx
    have : k < ρ.length := by rw [h.len]; exact allLt_ok hlt k (List.mem_of_getElem? hk')
    exact ⟨k, hk', by simp [List.getElem?_eq_getElem this]⟩
  have hr : ∀ i k x, inv keep i = some k → ρ[i]? = some x → (pick ρ keep)[k]? = some x := by
    intro i k x hi hx
    unfold pick
    rw [List.getElem?_map, inv_get hi]
    simp [hx]
  refine ⟨⟨by simp [pick, selOb_len], ?_, ?_, ?_, h.ext, h.frame, h.size, h.os, h.tape, h.output, ?_, h.gold, h.gnew⟩, hr⟩
  · intro i ob x hob hx
    obtain ⟨k, hk', hkx⟩ := hget i x hx
    have hkl : k < H.length := by rw [← h.len]; exact (List.getElem?_eq_some_iff.1 hkx).1
    rw [selOb_get keep H keep i k _ hk' (List.getElem?_eq_getElem hkl)] at hob
    simp at hob; subst hob
    exact (h.obs k _ x (List.getElem?_eq_getElem hkl) hkx).fwd hr
  · intro i j x y b hx hy hxb hyb
    obtain ⟨k, hk', hkx⟩ := hget i x hx
    obtain ⟨k', hk'', hky⟩ := hget j y hy
    have := h.apart k k' x y b hkx hky hxb hyb
    subst this
    exact (List.getElem?_inj (List.getElem?_eq_some_iff.1 hk').1 hk.1).1 (hk'.trans hk''.symm)
  · intro i x b hx hxb
    obtain ⟨k, _, hkx⟩ := hget i x hx
    exact h.own k x b hkx hxb
  · intro i a hi
    have h1 := h.old i a hi
    have hin : i < n := by rw [← hE]; exact (List.getElem?_eq_some_iff.1 hi).1
    unfold pick
    rw [List.getElem?_map, hkn i hin]
    simp [h1]
/-- The state may be told in a way that C knows. -/
structure Tell (E : Env) (s : St) (C : St → Prop) : Prop where
  out : ∀ ρ w zs, Ag E ρ s.H s.G w → Rvs ρ s.fr zs → ∃ s1 ρ', C s1 ∧ Ag E ρ' s1.H s1.G w ∧ Rvs ρ' s1.fr zs
theorem tell_here {s : St} {C : St → Prop} (h : C s) : Tell E s C := ⟨fun ρ w zs hA hF => ⟨s, ρ, h, hA, hF⟩⟩
def gcSt (keep : List Nat) (s : St) (k : St → Prop) : Prop := forceL (maps (inv keep) s.fr) fun fr => forceObs (selOb keep keep s.H) fun H => k ⟨fr, H, s.G⟩
theorem tell_gc {n : Nat} (hE : E.ρ0.length = n) (keep : List Nat) {s : St} {C : St → Prop} (hk : keepc n keep = true) (hlt : allLt s.H.length keep = true) (h : gcSt keep s fun s' => Tell E s' C) : Tell E s C := by
  refine ⟨fun ρ w zs hA hF => ?_⟩
  unfold gcSt at h
  rw [forceL_eq, forceObs_eq] at h
  obtain ⟨hA', hr⟩ := hA.gc hE hk hlt
  exact h.out _ w zs hA' (hF.fwd hr)
theorem tell_gh {s : St} {C : St → Prop} {T : List Nat} {D : (SV → SV) → St → Prop} (hc : Gh1 s T D) (h : ∀ g s', D g s' → Tell E s' C) : Tell E s C := by
  refine ⟨fun ρ w zs hA hF => ?_⟩
  obtain ⟨g, s', ρ', hD, hA', _, hF', _⟩ := hc.out E ρ w hA
  exact (h g s' hD).out ρ' w zs hA' (hF' _ hF)
theorem loop_gc {P : Program} {body : Code} {s : St} {K : Kont} {n : Nat} (hE : E.ρ0.length = n) (keep : List Nat) (hk : keepc n keep = true) (hlt : allLt s.H.length keep = true) (h : gcSt keep s fun s' => LoopVC P E body s' K) : LoopVC P E body s K := by
  refine ⟨fun Q hW0 hK ρ a w hA hF hd => ?_⟩
  unfold gcSt at h
  rw [forceL_eq, forceObs_eq] at h
  obtain ⟨hA', hr⟩ := hA.gc hE hk hlt
  exact h.out Q hW0 hK _ a w hA' (hF.fwd hr) hd
theorem loop_tell {P : Program} (hm : P.follows .mixedOrders = true) (Pl : List (Nat × Plan2)) {α : Type} {body : Code} {K : Kont} {s : St} (Inv : α → St → Prop) (μ : α → Nat)
    (h0 : ∃ x s1, Inv x s1 ∧ s1.H = s.H ∧ s1.G = s.G ∧ wk s.fr s1.fr)
    (step : ∀ x s, Inv x s → sxC P E Pl body (fun e s' => match e with
      | .normal => Tell E s' fun s2 => ∃ y s1, Inv y s1 ∧ μ y < μ x ∧ s1.H = s2.H ∧ s1.G = s2.G ∧ wk s2.fr s1.fr
      | .ret => K .ret s'
      | .exit i => K (.exit i) s') s) : LoopVC P E body s K := by
  refine ⟨fun Q hW0 hK ρ a w hA hF hd => ?_⟩
  obtain ⟨x0, s1, hI, e1, e2, hw⟩ := h0
  refine wp_loopx (fun x a w => ∃ s ρ, Inv x s ∧ Ag E ρ s.H s.G w ∧ Rvs ρ s.fr a.tmps.toList ∧ E.Kp a) μ ?_ (x0 := x0) ⟨s1, ρ, hI, by rw [e1, e2]; exact hA, wk_ok hw hF, hd⟩
  rintro x a w ⟨s, ρ, hI, hA, hF, hd⟩
  refine sxC_ok hm Pl body ⟨?_, ?_, hK.pan0⟩ (step x s hI) hA hF hd (okW_nil hW0 body)
  · intro e s' hs ρ' a' w' hA' hF' hd'
    cases e with
    | normal =>
      obtain ⟨s2, ρ2, ⟨y, s1, hy, hlt, e1, e2, hw⟩, hA2, hF2⟩ := hs.out ρ' w' _ hA' hF'
      exact ⟨y, ⟨s1, ρ2, hy, by rw [e1, e2]; exact hA2, wk_ok hw hF2, hd'⟩, hlt⟩
    | ret => exact hK.go .ret s' hs ρ' a' w' hA' hF' hd'
    | exit i => exact hK.go (.exit i) s' hs ρ' a' w' hA' hF' hd'
  · exact hK.pan
/-- A loop that ends within n rounds, walked round by round. -/
def unr (P : Program) (E : Env) (Pl : List (Nat × Plan2)) (body : Code) (K : Kont) : Nat → St → Prop
  | 0, _ => False
  | n + 1, s => sxC P E Pl body (fun e s' => match e with
      | .normal => unr P E Pl body K n s'
      | .ret => K .ret s'
      | .exit i => K (.exit i) s') s
theorem loop_unroll {P : Program} (hm : P.follows .mixedOrders = true) (Pl : List (Nat × Plan2)) (n : Nat) {body : Code} {K : Kont} {s : St} (h : unr P E Pl body K n s) : LoopVC P E body s K := by
  refine ⟨fun Q hW0 hK ρ a w hA hF hd => ?_⟩
  refine wp_loopx (fun (m : Nat) a w => ∃ s ρ, unr P E Pl body K m s ∧ Ag E ρ s.H s.G w ∧ Rvs ρ s.fr a.tmps.toList ∧ E.Kp a) id ?_ (x0 := n) ⟨s, ρ, h, hA, hF, hd⟩
  rintro m a w ⟨s, ρ, hI, hA, hF, hd⟩
  cases m with
  | zero => exact hI.elim
  | succ m =>
    simp only [unr] at hI
    refine sxC_ok hm Pl body ⟨?_, ?_, hK.pan0⟩ hI hA hF hd (okW_nil hW0 body)
    · intro e s' hs ρ' a' w' hA' hF' hd'
      cases e with
      | normal => exact ⟨m, ⟨s', ρ', hs, hA', hF', hd'⟩, Nat.lt_succ_self m⟩
      | ret => exact hK.go .ret s' hs ρ' a' w' hA' hF' hd'
      | exit i => exact hK.go (.exit i) s' hs ρ' a' w' hA' hF' hd'
    · exact hK.pan
theorem loop_vars {P : Program} (hm : P.follows .mixedOrders = true) (Pl : List (Nat × Plan2)) {α : Type} {body : Code} {K : Kont} {s : St} (vars : α → List (Nat × SV)) (Hs : α → List Ob) (Gs : α → Gh) (I : α → Prop) (μ : α → Nat) (x0 : α)
    (hI : I x0) (hH : Hs x0 = s.H) (hG : Gs x0 = s.G) (hw : Stop (frL body s.fr (vars x0) fun fr => wk s.fr fr))
    (step : ∀ x, I x → frL body s.fr (vars x) fun fr => sxC P E Pl body (fun e s' => match e with
      | .normal => Tell E s' fun s2 => ∃ y, I y ∧ μ y < μ x ∧ Hs y = s2.H ∧ Gs y = s2.G ∧ Stop (frL body s.fr (vars y) fun fr => wk s2.fr fr)
      | .ret => K .ret s'
      | .exit i => K (.exit i) s') ⟨fr, Hs x, Gs x⟩) : LoopVC P E body s K := by
  obtain ⟨f, hf⟩ := frL_eq body s.fr
  have hst : ∀ A, Stop A = A := fun A => propext ⟨fun h => h.out, fun h => ⟨h⟩⟩
  refine loop_tell hm Pl (fun x s1 => I x ∧ s1 = ⟨f (vars x), Hs x, Gs x⟩) μ ⟨x0, _, ⟨hI, rfl⟩, hH, hG, by have := hw.out; rw [hf] at this; exact this⟩ ?_
  rintro x s1 ⟨hx, rfl⟩
  have h := step x hx
  rw [hf] at h
  have hfun : (fun (e : Ex) (s' : St) => match e with
      | .normal => Tell E s' fun s2 => ∃ y, I y ∧ μ y < μ x ∧ Hs y = s2.H ∧ Gs y = s2.G ∧ Stop (frL body s.fr (vars y) fun fr => wk s2.fr fr)
      | .ret => K .ret s'
      | .exit i => K (.exit i) s') = (fun (e : Ex) (s' : St) => match e with
      | .normal => Tell E s' fun s2 => ∃ y s1, (I y ∧ s1 = (⟨f (vars y), Hs y, Gs y⟩ : St)) ∧ μ y < μ x ∧ s1.H = s2.H ∧ s1.G = s2.G ∧ wk s2.fr s1.fr
      | .ret => K .ret s'
      | .exit i => K (.exit i) s') := by
    funext e s'
    cases e with
    | normal =>
      simp only [hst, hf]
      refine congrArg (Tell E s') (funext fun s2 => propext ⟨fun ⟨y, h1, h2, h3, h4, h5⟩ => ⟨y, _, ⟨h1, rfl⟩, h2, h3, h4, h5⟩, ?_⟩)
      rintro ⟨y, _, ⟨h1, rfl⟩, h2, h3, h4, h5⟩
      exact ⟨y, h1, h2, h3, h4, h5⟩
    | ret => rfl
    | exit i => rfl
  rw [hfun] at h
  exact h
end
end Go.SX

namespace Go.SX
theorem stop_eq (A : Prop) : Stop A = A := propext ⟨fun h => h.out, fun h => ⟨h⟩⟩
/-- What follows the loop is K0 while the loop is walked. -/
theorem loop_opq {P : Program} {E : Env} {body : Code} {s : St} {K : Kont} (h : ∀ K0 : Kont, (∀ e s', K e s' → K0 e s') → LoopVC P E body s fun e s' => Stop (K0 e s')) : LoopVC P E body s K := by
  have h1 := h K fun _ _ x => x
  have h2 : (fun e s' => Stop (K e s')) = K := funext fun e => funext fun s' => stop_eq _
  rw [h2] at h1
  exact h1
/-- A loop whose exits are told in one way: what follows is walked once. i is the exit's number. -/
theorem loop_out {P : Program} {E : Env} {body : Code} {s : St} {K : Kont} (i : Nat) {β : Type} (vars : β → List (Nat × SV)) (Hs : β → List Ob) (Gs : β → Gh) (I : β → Prop)
    (after : ∀ y, I y → frL body s.fr (vars y) fun fr => K (.exit i) ⟨fr, Hs y, Gs y⟩)
    (h : ∀ K0 : Kont, (∀ e s', K e s' → K0 e s') → (∀ s', (Tell E s' fun s2 => ∃ y, I y ∧ Hs y = s2.H ∧ Gs y = s2.G ∧ Stop (frL body s.fr (vars y) fun fr => wk s2.fr fr)) → K0 (.exit i) s') →
      LoopVC P E body s fun e s' => Stop (K0 e s')) : LoopVC P E body s K := by
  obtain ⟨f, hf⟩ := frL_eq body s.fr
  have h1 := h (fun e s' => K e s' ∨ (e = .exit i ∧ Tell E s' fun s2 => ∃ y, I y ∧ Hs y = s2.H ∧ Gs y = s2.G ∧ Stop (frL body s.fr (vars y) fun fr => wk s2.fr fr))) (fun _ _ x => .inl x) (fun s' x => .inr ⟨rfl, x⟩)
  refine ⟨fun Q hW0 hK ρ a w hA hF hd => h1.out Q hW0 ⟨?_, hK.pan, hK.pan0⟩ ρ a w hA hF hd⟩
  intro e s' hs ρ' a' w' hA' hF' hd'
  rcases hs.out with h5 | ⟨rfl, h5⟩
  · exact hK.go e s' h5 ρ' a' w' hA' hF' hd'
  · obtain ⟨s2, ρ2, ⟨y, hy, e1, e2, hw⟩, hA2, hF2⟩ := h5.out ρ' w' _ hA' hF'
    have h3 := after y hy
    have h4 := hw.out
    rw [hf] at h3 h4
    exact hK.go (.exit i) _ h3 ρ2 a' w' (by show Ag E ρ2 (Hs y) (Gs y) w'; rw [e1, e2]; exact hA2) (wk_ok h4 hF2) hd'
theorem tell_fz {E : Env} {s : St} {C : St → Prop} (i : Nat) {e sz n : Nat} {xs : List Value} (hH : nth s.H i = some (.row e sz n xs)) (h1 : ∀ v ∈ xs, v.oneCell' = true)
    (h : ∀ A c G', Ghe s.G G' → Sl G' A n c sz xs → forceL (fzs i (.slice A n c) s.fr) fun fr' => forceObs ((obfz i (.slice A n c) s.H).set i .gone) fun H' => Tell E ⟨fr', H', G'⟩ C) : Tell E s C := by
  refine tell_gh (gh_done i hH h1) ?_
  rintro _ _ ⟨A, c, G', hg, hs, rfl, rfl⟩
  have := h A c G' hg hs
  rw [forceL_eq, forceObs_eq] at this
  exact this
theorem br_b {b : Bool} {A B : Prop} (h1 : b = true → A) (h2 : b = false → B) : br b A B := ⟨h1, h2⟩
end Go.SX

namespace Go.SX
open Go.RowKit Go.Deep
set_option linter.unusedVariables false
set_option linter.unusedSimpArgs false

theorem Gcell.to {G G' : Gh} (hg : Ghe G G') {a : Addr} {v : Value} (h : Gcell G a = some v) : Gcell G' a = some v := by
  unfold Gcell at h ⊢
  cases hb : G a.block with
  | none => simp [hb] at h
  | some o => rw [hg _ _ hb]; rw [hb] at h; exact h
theorem Gat.to {G G' : Gh} (hg : Ghe G G') {a : Addr} {ys : List Value} (h : Gat G a ys) : Gat G' a ys := fun j v hj => Gcell.to hg (h j v hj)
theorem Sl.to {G G' : Gh} (hg : Ghe G G') {A : Option Addr} {n c sz : Nat} {cs : List Value} (h : Sl G A n c sz cs) : Sl G' A n c sz cs :=
  ⟨h.len, h.cap, h.top, fun ad had => (h.there ad had).to hg, h.nil, h.ones⟩
theorem Sl.none_ (G : Gh) (sz : Nat) : Sl G none 0 0 sz [] := ⟨by simp, Nat.le_refl _, by decide, fun ad h => by simp at h, fun _ => ⟨rfl, rfl⟩, fun v hv => by simp at hv⟩

/-- How a thing of the plain side lies in cells. -/
structure Kd (α : Type) where
  sz : Nat
  R : Gh → α → List Value → Prop
  len : ∀ {G x cs}, R G x cs → cs.length = sz
  one : ∀ {G x cs}, R G x cs → ∀ v ∈ cs, v.oneCell' = true
  mono : ∀ {G G' x cs}, Ghe G G' → R G x cs → R G' x cs

/-- Elements and their cells. -/
def All2 {α β : Type} (R : α → β → Prop) : List α → List β → Prop
  | [], [] => True
  | x :: xs, y :: ys => R x y ∧ All2 R xs ys
  | _, _ => False
theorem All2.len {α β : Type} {R : α → β → Prop} : ∀ {xs : List α} {ys : List β}, All2 R xs ys → ys.length = xs.length
  | [], [], _ => rfl
  | _ :: _, _ :: _, h => by simp [h.2.len]
  | [], _ :: _, h => h.elim
  | _ :: _, [], h => h.elim
theorem All2.get {α β : Type} {R : α → β → Prop} : ∀ {xs : List α} {ys : List β}, All2 R xs ys → ∀ (i : Nat) x, xs[i]? = some x → ∃ y, ys[i]? = some y ∧ R x y
  | [], [], _, i, x, h => by simp at h
  | a :: _, b :: _, h, 0, x, hx => by simp at hx; subst hx; exact ⟨b, by simp, h.1⟩
  | a :: _, b :: _, h, i + 1, x, hx => by simpa using h.2.get i x (by simpa using hx)
  | [], _ :: _, h, _, _, _ => h.elim
  | _ :: _, [], h, _, _, _ => h.elim
theorem All2.get' {α β : Type} {R : α → β → Prop} : ∀ {xs : List α} {ys : List β}, All2 R xs ys → ∀ (i : Nat) y, ys[i]? = some y → ∃ x, xs[i]? = some x ∧ R x y
  | [], [], _, i, x, h => by simp at h
  | a :: _, b :: _, h, 0, x, hx => by simp at hx; subst hx; exact ⟨a, by simp, h.1⟩
  | a :: _, b :: _, h, i + 1, x, hx => by simpa using h.2.get' i x (by simpa using hx)
  | [], _ :: _, h, _, _, _ => h.elim
  | _ :: _, [], h, _, _, _ => h.elim
theorem All2.imp {α β : Type} {R R' : α → β → Prop} (hi : ∀ x y, R x y → R' x y) : ∀ {xs : List α} {ys : List β}, All2 R xs ys → All2 R' xs ys
  | [], [], _ => trivial
  | _ :: _, _ :: _, h => ⟨hi _ _ h.1, h.2.imp hi⟩
  | [], _ :: _, h => h.elim
  | _ :: _, [], h => h.elim
theorem All2.app {α β : Type} {R : α → β → Prop} {xs' : List α} {ys' : List β} (h' : All2 R xs' ys') : ∀ {xs : List α} {ys : List β}, All2 R xs ys → All2 R (xs ++ xs') (ys ++ ys')
  | [], [], _ => h'
  | _ :: _, _ :: _, h => ⟨h.1, All2.app h' h.2⟩
  | [], _ :: _, h => h.elim
  | _ :: _, [], h => h.elim
theorem All2.drop_ {α β : Type} {R : α → β → Prop} : ∀ {xs : List α} {ys : List β} (k : Nat), All2 R xs ys → All2 R (xs.drop k) (ys.drop k)
  | [], [], k, _ => by simp [All2]
  | x :: xs, y :: ys, 0, h => by simpa using h
  | x :: xs, y :: ys, k + 1, h => by simpa using All2.drop_ k h.2
  | [], _ :: _, _, h => h.elim
  | _ :: _, [], _, h => h.elim
theorem All2.take_ {α β : Type} {R : α → β → Prop} : ∀ {xs : List α} {ys : List β} (k : Nat), All2 R xs ys → All2 R (xs.take k) (ys.take k)
  | [], [], k, _ => by simp [All2]
  | x :: xs, y :: ys, 0, h => by simp [All2]
  | x :: xs, y :: ys, k + 1, h => by simp only [List.take_succ_cons]; exact ⟨h.1, All2.take_ k h.2⟩
  | [], _ :: _, _, h => h.elim
  | _ :: _, [], _, h => h.elim

section
variable {α : Type}
/-- The cells of a list of elements. -/
def Kd.Cs (d : Kd α) (G : Gh) (l : List α) (cs : List Value) : Prop := ∃ css : List (List Value), All2 (d.R G) l css ∧ cs = css.flatten
theorem Kd.rows_len (d : Kd α) {G : Gh} {l : List α} {css : List (List Value)} (h : All2 (d.R G) l css) : ∀ r ∈ css, r.length = d.sz := by
  intro r hr
  obtain ⟨i, hi⟩ := List.getElem?_of_mem hr
  obtain ⟨x, _, hx⟩ := h.get' i r hi
  exact d.len hx
theorem flen {k : Nat} : ∀ (l : List (List Value)), (∀ r ∈ l, r.length = k) → l.flatten.length = l.length * k
  | [], _ => by simp
  | r :: l, h => by
    rw [List.flatten_cons, List.length_append, flen l (fun r' hr' => h r' (by simp [hr'])), h r (by simp), List.length_cons, Nat.add_mul]
    omega
theorem fdrop {k : Nat} : ∀ (l : List (List Value)) (i : Nat), (∀ r ∈ l, r.length = k) → l.flatten.drop (i * k) = (l.drop i).flatten
  | [], i, _ => by simp
  | r :: l, 0, _ => by simp
  | r :: l, i + 1, h => by
    have hr := h r (by simp)
    rw [List.flatten_cons, List.drop_succ_cons, ← fdrop l i (fun r' hr' => h r' (by simp [hr'])), List.drop_append, hr]
    rw [show (i + 1) * k - k = i * k by rw [Nat.add_mul]; omega]
    rw [List.drop_eq_nil_of_le (by rw [hr, Nat.add_mul]; omega), List.nil_append]
theorem ftake {k : Nat} : ∀ (l : List (List Value)) (i : Nat), (∀ r ∈ l, r.length = k) → l.flatten.take (i * k) = (l.take i).flatten
  | [], i, _ => by simp
  | r :: l, 0, _ => by simp
  | r :: l, i + 1, h => by
    have hr := h r (by simp)
    rw [List.flatten_cons, List.take_succ_cons, List.flatten_cons, ← ftake l i (fun r' hr' => h r' (by simp [hr'])), List.take_append, hr]
    rw [show (i + 1) * k - k = i * k by rw [Nat.add_mul]; omega]
    rw [List.take_of_length_le (by rw [hr, Nat.add_mul]; omega)]
theorem fget {k : Nat} (l : List (List Value)) (h : ∀ r ∈ l, r.length = k) (i : Nat) (r : List Value) (hi : l[i]? = some r) : (l.flatten.drop (i * k)).take k = r := by
  rw [fdrop l i h]
  have : l.drop i = r :: l.drop (i + 1) := by
    rw [List.getElem?_eq_some_iff] at hi
    obtain ⟨hl, rfl⟩ := hi
    rw [List.drop_eq_getElem_cons hl]
  rw [this, List.flatten_cons, List.take_append, h r (List.mem_of_getElem? hi)]
  simp [List.take_of_length_le (show r.length ≤ k by rw [h r (List.mem_of_getElem? hi)]; omega)]

/-- A slice of elements that nobody changes. -/
def Kd.S (d : Kd α) (G : Gh) (A : Option Addr) (c : Nat) (l : List α) : Prop := ∃ css : List (List Value), All2 (d.R G) l css ∧ Sl G A l.length c d.sz css.flatten
theorem Kd.S.to {d : Kd α} {G G' : Gh} {A : Option Addr} {c : Nat} {l : List α} (h : d.S G A c l) (hg : Ghe G G') : d.S G' A c l := by
  obtain ⟨css, h1, h2⟩ := h
  exact ⟨css, h1.imp fun _ _ => d.mono hg, h2.to hg⟩
theorem Kd.S.cap {d : Kd α} {G : Gh} {A : Option Addr} {c : Nat} {l : List α} (h : d.S G A c l) : l.length ≤ c ∧ c ≤ 9223372036854775807 := by
  obtain ⟨css, h1, h2⟩ := h
  exact ⟨h2.cap, h2.top⟩
theorem Kd.S.none_ (d : Kd α) (G : Gh) : d.S G none 0 [] := ⟨[], trivial, Sl.none_ G _⟩
/-- A slice that was built of such elements and is done. -/
theorem Kd.S.of {d : Kd α} {G : Gh} {A : Option Addr} {n c sz : Nat} {cs : List Value} {l : List α} (h : Sl G A n c sz cs) (hn : n = l.length) (hsz : sz = d.sz) (hc : d.Cs G l cs) : d.S G A c l := by
  obtain ⟨css, h1, rfl⟩ := hc
  subst hn hsz
  exact ⟨css, h1, h⟩
theorem Kd.Cs.nil (d : Kd α) (G : Gh) : d.Cs G [] [] := ⟨[], trivial, rfl⟩
theorem Kd.Cs.snoc {d : Kd α} {G : Gh} {l : List α} {cs : List Value} (h : d.Cs G l cs) {x : α} {c : List Value} (hx : d.R G x c) : d.Cs G (l ++ [x]) (cs ++ c) := by
  obtain ⟨css, h1, rfl⟩ := h
  exact ⟨css ++ [c], All2.app (xs' := [x]) (ys' := [c]) ⟨hx, trivial⟩ h1, by simp⟩
theorem Kd.Cs.app {d : Kd α} {G : Gh} {l l' : List α} {cs cs' : List Value} (h : d.Cs G l cs) (h' : d.Cs G l' cs') : d.Cs G (l ++ l') (cs ++ cs') := by
  obtain ⟨css, h1, rfl⟩ := h
  obtain ⟨css', h2, rfl⟩ := h'
  exact ⟨css ++ css', All2.app h2 h1, by simp⟩
theorem Kd.Cs.to {d : Kd α} {G G' : Gh} {l : List α} {cs : List Value} (h : d.Cs G l cs) (hg : Ghe G G') : d.Cs G' l cs := by
  obtain ⟨css, h1, rfl⟩ := h
  exact ⟨css, h1.imp fun _ _ => d.mono hg, rfl⟩
theorem Kd.Cs.ones {d : Kd α} {G : Gh} {l : List α} {cs : List Value} (h : d.Cs G l cs) : ∀ v ∈ cs, v.oneCell' = true := by
  obtain ⟨css, h1, rfl⟩ := h
  intro v hv
  obtain ⟨r, hr, hv⟩ := List.mem_flatten.1 hv
  obtain ⟨i, hi⟩ := List.getElem?_of_mem hr
  obtain ⟨x, _, hx⟩ := h1.get' i r hi
  exact d.one hx v hv
theorem Kd.Cs.len {d : Kd α} {G : Gh} {l : List α} {cs : List Value} (h : d.Cs G l cs) : cs.length = l.length * d.sz := by
  obtain ⟨css, h1, rfl⟩ := h
  rw [flen _ (d.rows_len h1), h1.len]
theorem Kd.S.cs {d : Kd α} {G : Gh} {A : Option Addr} {c : Nat} {l : List α} (h : d.S G A c l) : ∃ cs, Sl G A l.length c d.sz cs ∧ d.Cs G l cs := by
  obtain ⟨css, h1, h2⟩ := h
  exact ⟨_, h2, css, h1, rfl⟩
/-- The element at an index. -/
theorem Kd.S.ix {d : Kd α} {G : Gh} {A : Option Addr} {c sz : Nat} {l : List α} (h : d.S G A c l) (hsz : sz = d.sz) {j : Int} {n : Nat} (hn : n = l.length) (h0 : 0 ≤ j) (hj : j < l.length) {K : SV → Prop}
    (hK : ∀ ad x cs, l[j.toNat]? = some x → d.R G x cs → Gat G ad cs → K (.v (.pointer (some ad)))) :
    (0 ≤ j ∧ j < (n : Int)) ∧ ∃ cs, Sl G A n c sz cs ∧ ∀ ad, Gat G ad ((cs.drop (j.toNat * sz)).take sz) → (∃ a0, A = some a0 ∧ ad = a0.add (j.toNat * sz)) → K (.v (.pointer (some ad))) := by
  subst hn hsz
  obtain ⟨css, h1, h2⟩ := h
  refine ⟨⟨h0, hj⟩, _, h2, fun ad had _ => ?_⟩
  have hlt : j.toNat < l.length := by omega
  obtain ⟨r, hr, hR⟩ := h1.get j.toNat _ (List.getElem?_eq_getElem hlt)
  rw [fget css (d.rows_len h1) _ r hr] at had
  exact hK ad _ r (List.getElem?_eq_getElem hlt) hR had
theorem Kd.S.at {d : Kd α} {G : Gh} {A : Option Addr} {c sz : Nat} {l : List α} (h : d.S G A c l) (hsz : sz = d.sz) :
    ∃ cs, Sl G A l.length c sz cs ∧ ∀ j, j < l.length → ∀ ad, Gat G ad ((cs.drop (j * sz)).take sz) → ∃ x xs, l[j]? = some x ∧ d.R G x xs ∧ Gat G ad xs := by
  subst hsz
  obtain ⟨css, h1, h2⟩ := h
  refine ⟨_, h2, fun j hj ad had => ?_⟩
  obtain ⟨r, hr, hR⟩ := h1.get j _ (List.getElem?_eq_getElem hj)
  rw [fget css (d.rows_len h1) _ r hr] at had
  exact ⟨_, r, List.getElem?_eq_getElem hj, hR, had⟩
/-- The rest from an element on. -/
theorem Sl.drop_ {G : Gh} {A A' : Option Addr} {n c sz a : Nat} {cs : List Value} (hs : Sl G A n c sz cs) (ha : a ≤ n) (hA : A' = if c = a then A else A.map (·.add (a * sz))) : Sl G A' (n - a) (c - a) sz (cs.drop (a * sz)) := by
  have hc := hs.cap
  refine ⟨by rw [List.length_drop, hs.len, Nat.sub_mul], by omega, by have := hs.top; omega, fun ad had => ?_, fun hn => ?_, fun v hv => hs.ones v (List.mem_of_mem_drop hv)⟩
  · by_cases hca : c = a
    · have : cs.drop (a * sz) = [] := List.drop_eq_nil_of_le (by rw [hs.len]; exact Nat.mul_le_mul_right _ (by omega))
      rw [this]; intro j v hj; simp at hj
    · rw [if_neg hca] at hA
      cases A with
      | none => rw [hA] at had; simp at had
      | some ad0 =>
        rw [hA] at had
        simp at had
        subst had
        by_cases hl : a * sz < cs.length
        · exact (hs.there ad0 rfl).drop_ _ hl
        · rw [List.drop_eq_nil_of_le (by omega)]; intro j v hj; simp at hj
  · by_cases hca : c = a
    · rw [if_pos hca] at hA
      have := hs.nil (by rw [← hA]; exact hn)
      omega
    · rw [if_neg hca] at hA
      cases A with
      | none => have := hs.nil rfl; omega
      | some ad0 => rw [hA] at hn; simp at hn
theorem Sl.take_ {G : Gh} {A : Option Addr} {n c sz k : Nat} {cs : List Value} (hs : Sl G A n c sz cs) (hk : k ≤ n) : Sl G A k c sz (cs.take (k * sz)) := by
  have hc := hs.cap
  refine ⟨by rw [List.length_take, hs.len, Nat.min_eq_left (Nat.mul_le_mul_right _ hk)], by omega, hs.top, fun ad had => (hs.there ad had).take_ _, fun hn => ?_, fun v hv => hs.ones v (List.mem_of_mem_take hv)⟩
  have := hs.nil hn; omega
theorem Kd.S.drop_ {d : Kd α} {G : Gh} {A A' : Option Addr} {c a : Nat} {l : List α} (hs : d.S G A c l) (ha : a ≤ l.length) (hA : A' = if c = a then A else A.map (·.add (a * d.sz))) : d.S G A' (c - a) (l.drop a) := by
  obtain ⟨css, h1, h2⟩ := hs
  refine ⟨css.drop a, h1.drop_ a, ?_⟩
  have := h2.drop_ ha hA
  rw [fdrop _ _ (d.rows_len h1)] at this
  rwa [List.length_drop]
theorem Kd.S.take_ {d : Kd α} {G : Gh} {A : Option Addr} {c k : Nat} {l : List α} (hs : d.S G A c l) (hk : k ≤ l.length) : d.S G A c (l.take k) := by
  obtain ⟨css, h1, h2⟩ := hs
  refine ⟨css.take k, h1.take_ k, ?_⟩
  have := h2.take_ hk
  rw [ftake _ _ (d.rows_len h1)] at this
  rwa [List.length_take, Nat.min_eq_left hk]
end

/-- Integers of a kind within bounds. -/
def kI (k : IntKind) (lo hi : Int) : Kd Int where
  sz := 1
  R _ x cs := cs = [.int k x] ∧ lo ≤ x ∧ x ≤ hi
  len h := by rw [h.1]; rfl
  one h := by rw [h.1]; intro v hv; simp at hv; subst hv; rfl
  mono _ h := h
/-- Slices. -/
def kS {α : Type} (d : Kd α) : Kd (List α) where
  sz := 1
  R G l cs := ∃ A c, cs = [.slice A l.length c] ∧ d.S G A c l
  len h := by obtain ⟨A, c, rfl, _⟩ := h; rfl
  one h := by obtain ⟨A, c, rfl, _⟩ := h; intro v hv; simp at hv; subst hv; rfl
  mono hg h := by obtain ⟨A, c, h1, h2⟩ := h; exact ⟨A, c, h1, h2.to hg⟩

/-! ### what lies in the world is of its kind -/
/-- What reads at type t is of kind d. -/
def Opens {α : Type} (P : Program) (t : TypeId) (d : Kd α) : Prop :=
  P.cellsOf t = d.sz ∧ ∀ (H : Type) (enc : TypeId × Value → H) (W : World) (base : Nat) (spare : Nat → Bool) (held : Bool) (fuel : Nat) (cs : List Value) (x : DataW H × List MemPlace),
    DataW.trod enc P W base spare held fuel t cs = some x → ∃ y : α, d.R (heapG W) y cs
theorem opens_int {P : Program} {t : TypeId} {k : IntKind} {lo hi : Int} (hc : P.cellsOf t = 1) (ht : P.underlying t = some (.int k)) (hw : ∀ x, (Lit.int k x).wf = true → lo ≤ x ∧ x ≤ hi) : Opens P t (kI k lo hi) :=
  ⟨hc, fun H enc W base spare held fuel cs x h => by
    obtain ⟨n, rfl, _, hwf⟩ := DataW.trod_int ht h
    exact ⟨n, rfl, hw n hwf⟩⟩
theorem opens_slice {α : Type} {P : Program} {t e : TypeId} {d : Kd α} (hc : P.cellsOf t = 1) (ht : P.underlying t = some (.slice e)) (he : Opens P e d) : Opens P t (kS d) :=
  ⟨hc, fun H enc W base spare held fuel cs x h => by
    rcases open_slice ht h with ⟨rfl, _⟩ | ⟨a, len, cap, m, n, D, Pl, rfl, _, hl, hm, hmm, _, hcell⟩
    · exact ⟨[], none, 0, rfl, Kd.S.none_ d _⟩
    · have hle : len ≤ m := by rw [hmm]; split <;> omega
      have hx : ∀ i, i < len → ∃ y : α, ∃ cs', W.cells? base (a.add (i * P.cellsOf e)) (P.cellsOf e) = some cs' ∧ d.R (heapG W) y cs' := by
        intro i hi
        obtain ⟨cs', h1, h2⟩ := hcell i (by omega)
        obtain ⟨y, h3⟩ := he.2 H enc W base spare held n cs' _ h2
        exact ⟨y, cs', h1, h3⟩
      have hpick : ∀ k, k ≤ len → ∃ (ys : List α) (css : List (List Value)), ys.length = k ∧ All2 (d.R (heapG W)) ys css ∧ ∀ i r, css[i]? = some r → W.cells? base (a.add (i * P.cellsOf e)) (P.cellsOf e) = some r := by
        intro k
        induction k with
        | zero => intro _; exact ⟨[], [], rfl, trivial, fun i y hy => by simp at hy⟩
        | succ k ih =>
          intro hk
          obtain ⟨ys, css, hys, h2, hall⟩ := ih (by omega)
          obtain ⟨y, r, hy, hr⟩ := hx k (by omega)
          have hcl := h2.len
          refine ⟨ys ++ [y], css ++ [r], by simp [hys], All2.app (xs' := [y]) (ys' := [r]) ⟨hr, trivial⟩ h2, fun i z hz => ?_⟩
          rcases Nat.lt_or_ge i k with hlt | hge
          · rw [List.getElem?_append_left (by omega)] at hz
            exact hall i z hz
          · have hik : i = k := by
              have := (List.getElem?_eq_some_iff.1 hz).1
              rw [List.length_append, List.length_singleton] at this
              omega
            subst hik
            rw [List.getElem?_append_right (by omega), hcl, hys, Nat.sub_self] at hz
            simp at hz
            subst hz
            exact hy
      obtain ⟨ys, css, hys, h2, hall⟩ := hpick len (Nat.le_refl _)
      have hrl := d.rows_len h2
      refine ⟨ys, some a, cap, by rw [hys], css, h2, ⟨by rw [flen _ hrl, h2.len], by omega, by simpa [maxLen] using hm, fun ad had j v hj => ?_, fun h => by simp at h, ?_⟩⟩
      · simp at had; subst had
        obtain ⟨i, o, r, rfl, hi, ho⟩ := flat_at' css hrl j v hj
        have h3 := World.cells?_some (hall i r hi)
        have hos : o < P.cellsOf e := by rw [he.1, ← hrl r (List.mem_of_getElem? hi)]; exact (List.getElem?_eq_some_iff.1 ho).1
        have h4 := h3.2.2 o hos
        rw [he.1, Go.Deep.add_add, ho] at h4
        exact h4
      · exact Kd.Cs.ones (d := d) (G := heapG W) (l := ys) ⟨css, h2, rfl⟩⟩
where
  flat_at' {k : Nat} : ∀ (l : List (List Value)), (∀ r ∈ l, r.length = k) → ∀ (j : Nat) v, l.flatten[j]? = some v → ∃ (i o : Nat) (r : List Value), j = i * k + o ∧ l[i]? = some r ∧ r[o]? = some v
    | [], _, j, v, h => by simp at h
    | r :: l, hl, j, v, h => by
      rw [List.flatten_cons] at h
      have hr := hl r (by simp)
      rcases Nat.lt_or_ge j r.length with hj | hj
      · rw [List.getElem?_append_left hj] at h
        exact ⟨0, j, r, by omega, by simp, h⟩
      · rw [List.getElem?_append_right hj] at h
        obtain ⟨i, o, r', h1, h2, h3⟩ := flat_at' l (fun r' hr' => hl r' (by simp [hr'])) _ v h
        exact ⟨i + 1, o, r', by rw [Nat.add_mul]; omega, by simpa using h2, h3⟩
/-- The fields from offset o on, each of a kind, n cells in all. -/
inductive OpensF (P : Program) : List Field → Nat → Nat → {β : Type} → (Gh → β → List Value → Prop) → Prop
  | nil (o : Nat) : OpensF P [] o 0 (β := Unit) (fun _ _ cs => cs = [])
  | cons {α β : Type} {f : Field} {fs : List Field} {o n : Nat} {d : Kd α} {R : Gh → β → List Value → Prop} (ho : f.offset = o) (hd : Opens P f.type d) (hr : OpensF P fs (o + d.sz) n R) :
      OpensF P (f :: fs) o (d.sz + n) (β := α × β) (fun G x cs => ∃ c1 c2, cs = c1 ++ c2 ∧ d.R G x.1 c1 ∧ R G x.2 c2)
theorem OpensF.get {P : Program} {fs : List Field} {o n : Nat} {β : Type} {R : Gh → β → List Value → Prop} (h : OpensF P fs o n R) :
    ∀ (H : Type) (enc : TypeId × Value → H) (W : World) (base : Nat) (spare : Nat → Bool) (held : Bool) (m : Nat) (cs : List Value), cs.length = o + n →
      (∀ f ∈ fs, ∃ x, DataW.trod enc P W base spare held m f.type ((cs.drop f.offset).take (P.cellsOf f.type)) = some x) → ∃ y : β, R (heapG W) y (cs.drop o) := by
  induction h with
  | nil o => exact fun H enc W base spare held m cs hl _ => ⟨(), List.drop_eq_nil_of_le (by omega)⟩
  | @cons α β f fs o n d R ho hd hr ih =>
    intro H enc W base spare held m cs hl hf
    obtain ⟨x, hx⟩ := hf f (by simp)
    obtain ⟨y, h1⟩ := hd.2 H enc W base spare held m _ x hx
    obtain ⟨z, h2⟩ := ih H enc W base spare held m cs (by omega) (fun g hg => hf g (by simp [hg]))
    rw [ho, hd.1] at h1
    refine ⟨(y, z), (cs.drop o).take d.sz, cs.drop (o + d.sz), ?_, h1, h2⟩
    rw [← List.drop_drop, List.take_append_drop]
theorem opens_struct {β γ : Type} {P : Program} {t : TypeId} {fs : Array Field} {R : Gh → β → List Value → Prop} {d : Kd γ} (hc : P.cellsOf t = d.sz) (ht : P.underlying t = some (.struct fs)) (hf : OpensF P fs.toList 0 d.sz R)
    (hR : ∀ G x cs, R G x cs → ∃ y, d.R G y cs) : Opens P t d := by
  refine ⟨hc, fun H enc W base spare held fuel cs x h => ?_⟩
  obtain ⟨xs, m, _, _, hl, hxl, hfs⟩ := DataW.trod_struct ht h
  obtain ⟨y, h1⟩ := hf.get H enc W base spare held m cs (by omega) (fun q hq => by
    obtain ⟨i, hi⟩ := List.getElem?_of_mem hq
    have hi' : fs[i]? = some q := by simpa using hi
    have hlt : i < fs.size := (Array.getElem?_eq_some_iff.1 hi').1
    exact ⟨xs[i]'(by omega), by rw [hfs i q hi', List.getElem?_eq_getElem]⟩)
  exact hR _ _ _ (by simpa using h1)
end Go.SX
