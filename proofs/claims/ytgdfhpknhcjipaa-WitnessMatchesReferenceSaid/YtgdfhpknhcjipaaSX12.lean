/- A symbolic walk: contracts of functions, and a call by a contract. -/
import Derived.Test.YtgdfhpknhcjipaaSX11
namespace Go.SX
set_option linter.unusedVariables false
set_option linter.unusedSimpArgs false

mutual
def SV.map (r : Nat → Option Nat) : SV → SV
  | .v x => .v x
  | .p i o => match r i with
    | some k => .p k o
    | none => .dead
  | .s i => match r i with
    | some k => .s k
    | none => .dead
  | .f fn a c => .f fn (maps r a) (maps r c)
  | .agg xs => .agg (maps r xs)
  | .tup xs => .tup (maps r xs)
  | .lit b => .lit b
  | .dead => .dead
def maps (r : Nat → Option Nat) : List SV → List SV
  | [] => []
  | x :: xs => x.map r :: maps r xs
end
def Ob.map (r : Nat → Option Nat) : Ob → Ob
  | .cells T xs => .cells T (maps r xs)
  | .row e sz n xs => .row e sz n xs
  | .lit T n xs => .lit T n (maps r xs)
  | .gone => .gone

section
variable {ρa ρb : List Value} {r : Nat → Option Nat}
mutual
theorem Rv.fwd (hr : ∀ i k x, r i = some k → ρa[i]? = some x → ρb[k]? = some x) : ∀ {x : SV} {y : Value}, Rv ρa x y → Rv ρb (x.map r) y
  | .v _, _, h => by simpa [Rv, SV.map] using h
  | .p i off, _, h => by
    simp only [Rv, SV.map] at h ⊢
    obtain ⟨x, b, hb, hx, rfl⟩ := h
    split
    · rename_i k hk; simp only [Rv]; exact ⟨x, b, hr i k x hk hb, hx, rfl⟩
    · simp [Rv]
  | .s i, _, h => by
    simp only [Rv, SV.map] at h ⊢
    split
    · rename_i k hk; simp only [Rv]; exact hr i k _ hk h
    · simp [Rv]
  | .f fn a c, _, h => by
    simp only [Rv, SV.map] at h ⊢
    obtain ⟨a', c', rfl, h1, h2⟩ := h
    exact ⟨a', c', rfl, Rvs.fwd hr h1, Rvs.fwd hr h2⟩
  | .agg xs, _, h => by
    simp only [Rv, SV.map] at h ⊢
    obtain ⟨ys, rfl, h1⟩ := h
    exact ⟨ys, rfl, Rvs.fwd hr h1⟩
  | .tup xs, _, h => by
    simp only [Rv, SV.map] at h ⊢
    obtain ⟨ys, rfl, h1⟩ := h
    exact ⟨ys, rfl, Rvs.fwd hr h1⟩
  | .lit _, _, h => by simpa [Rv, SV.map] using h
  | .dead, _, _ => by simp [Rv, SV.map]
theorem Rvs.fwd (hr : ∀ i k x, r i = some k → ρa[i]? = some x → ρb[k]? = some x) : ∀ {xs : List SV} {ys : List Value}, Rvs ρa xs ys → Rvs ρb (maps r xs) ys
  | [], _, h => by simpa [Rvs, maps] using h
  | x :: xs, _, h => by
    simp only [Rvs, maps] at h ⊢
    obtain ⟨y, yt, rfl, h1, h2⟩ := h
    exact ⟨y, yt, rfl, Rv.fwd hr h1, Rvs.fwd hr h2⟩
end
mutual
theorem Rv.bwd (hr : ∀ i, ∃ k, r i = some k ∧ ∀ x, ρb[k]? = some x → ρa[i]? = some x) : ∀ {x : SV} {y : Value}, Rv ρb (x.map r) y → Rv ρa x y
  | .v _, _, h => by simpa [Rv, SV.map] using h
  | .p i off, _, h => by
    obtain ⟨k, hk, hkx⟩ := hr i
    simp only [Rv, SV.map, hk] at h ⊢
    obtain ⟨x, b, hb, hx, rfl⟩ := h
    exact ⟨x, b, hkx x hb, hx, rfl⟩
  | .s i, _, h => by
    obtain ⟨k, hk, hkx⟩ := hr i
    simp only [Rv, SV.map, hk] at h ⊢
    exact hkx _ h
  | .f fn a c, _, h => by
    simp only [Rv, SV.map] at h ⊢
    obtain ⟨a', c', rfl, h1, h2⟩ := h
    exact ⟨a', c', rfl, Rvs.bwd hr h1, Rvs.bwd hr h2⟩
  | .agg xs, _, h => by
    simp only [Rv, SV.map] at h ⊢
    obtain ⟨ys, rfl, h1⟩ := h
    exact ⟨ys, rfl, Rvs.bwd hr h1⟩
  | .tup xs, _, h => by
    simp only [Rv, SV.map] at h ⊢
    obtain ⟨ys, rfl, h1⟩ := h
    exact ⟨ys, rfl, Rvs.bwd hr h1⟩
  | .lit _, _, h => by simpa [Rv, SV.map] using h
  | .dead, _, _ => by simp [Rv]
theorem Rvs.bwd (hr : ∀ i, ∃ k, r i = some k ∧ ∀ x, ρb[k]? = some x → ρa[i]? = some x) : ∀ {xs : List SV} {ys : List Value}, Rvs ρb (maps r xs) ys → Rvs ρa xs ys
  | [], _, h => by simpa [Rvs, maps] using h
  | x :: xs, _, h => by
    simp only [Rvs, maps] at h ⊢
    obtain ⟨y, yt, rfl, h1, h2⟩ := h
    exact ⟨y, yt, rfl, Rv.bwd hr h1, Rvs.bwd hr h2⟩
end
theorem ObOK.fwd {w : World} (hr : ∀ i k x, r i = some k → ρa[i]? = some x → ρb[k]? = some x) {ob : Ob} {x : Value} (h : ObOK ρa w ob x) : ObOK ρb w (ob.map r) x := by
  cases ob with
  | cells T xs => simp only [ObOK, Ob.map] at h ⊢; obtain ⟨b, cs, rfl, h1, h2⟩ := h; exact ⟨b, cs, rfl, h1, Rvs.fwd hr h2⟩
  | row e sz n xs => exact h
  | lit T n xs => simp only [ObOK, Ob.map] at h ⊢; obtain ⟨b, cs, rfl, h1, h2⟩ := h; exact ⟨b, cs, rfl, h1, Rvs.fwd hr h2⟩
  | gone => exact h
theorem ObOK.bwd {w : World} (hr : ∀ i, ∃ k, r i = some k ∧ ∀ x, ρb[k]? = some x → ρa[i]? = some x) {ob : Ob} {x : Value} (h : ObOK ρb w (ob.map r) x) : ObOK ρa w ob x := by
  cases ob with
  | cells T xs => simp only [ObOK, Ob.map] at h ⊢; obtain ⟨b, cs, rfl, h1, h2⟩ := h; exact ⟨b, cs, rfl, h1, Rvs.bwd hr h2⟩
  | row e sz n xs => exact h
  | lit T n xs => simp only [ObOK, Ob.map] at h ⊢; obtain ⟨b, cs, rfl, h1, h2⟩ := h; exact ⟨b, cs, rfl, h1, Rvs.bwd hr h2⟩
  | gone => exact h
end

/-- The callee's number of an object, in the caller's numbers: the objects that were handed on; new ones behind the caller's. -/
def rn (m : List Nat) (N : Nat) (i : Nat) : Option Nat :=
  match nth m i with
  | some k => some k
  | none => some (N + (i - m.length))
def km (kl : List Nat) (i : Nat) : Option Nat :=
  match memN i kl with
  | true => none
  | false => some i

def subH (m : List Nat) (N : Nat) (H : List Ob) : List Nat → List Ob → Prop
  | [], [] => True
  | k :: ks, ob :: obs => nth H k = some (ob.map (rn m N)) ∧ subH m N H ks obs
  | _, _ => False
theorem subH_len {m : List Nat} {N : Nat} {H : List Ob} : ∀ {ks : List Nat} {obs : List Ob}, subH m N H ks obs → obs.length = ks.length
  | [], [], _ => rfl
  | k :: ks, ob :: obs, h => by simp [subH_len h.2]
  | [], _ :: _, h => h.elim
  | _ :: _, [], h => h.elim
theorem subH_get {m : List Nat} {N : Nat} {H : List Ob} : ∀ {ks : List Nat} {obs : List Ob}, subH m N H ks obs → ∀ (i : Nat) ob, obs[i]? = some ob → ∃ k, ks[i]? = some k ∧ H[k]? = some (ob.map (rn m N))
  | [], [], _, i, ob, h => by simp at h
  | k :: ks, ob0 :: obs, h, 0, ob, hi => by simp at hi; subst hi; exact ⟨k, by simp, by rw [← nth_eq]; exact h.1⟩
  | k :: ks, ob0 :: obs, h, i + 1, ob, hi => by simpa using subH_get h.2 i ob (by simpa using hi)
  | [], _ :: _, h, _, _, _ => h.elim
  | _ :: _, [], h, _, _, _ => h.elim

def Fof (ρ : List Value) (b : Nat) : Prop := ∃ (i : Nat) (x : Value), ρ[i]? = some x ∧ blkOf x = some b
def Fr (w : World) (ρ : List Value) (G : Gh) : Env := ⟨w, Fof ρ, ρ, G⟩
def pick (ρ : List Value) (m : List Nat) : List Value := m.map fun k => (ρ[k]?).getD .nilFunc
theorem pick_get {ρ : List Value} {m : List Nat} {i : Nat} {x : Value} (h : (pick ρ m)[i]? = some x) : ∃ k, m[i]? = some k ∧ x = (ρ[k]?).getD .nilFunc := by
  unfold pick at h
  rw [List.getElem?_map] at h
  obtain ⟨k, hk, rfl⟩ := Option.map_eq_some_iff.1 h
  exact ⟨k, hk, rfl⟩

section
variable {E : Env} {ρ : List Value} {H : List Ob} {G : Gh} {w : World}

theorem rn_bwd {m : List Nat} (hlen : ρ.length = H.length) : ∀ i, ∃ k, rn m H.length i = some k ∧ ∀ x, ρ[k]? = some x → (pick ρ m)[i]? = some x := by
  intro i
  unfold rn
  rw [nth_eq]
  cases hm : m[i]? with
  | some k => exact ⟨k, rfl, fun x hx => by unfold pick; rw [List.getElem?_map, hm]; simp [hx]⟩
  | none => exact ⟨_, rfl, fun x hx => by have := (List.getElem?_eq_some_iff.1 hx).1; omega⟩

theorem Ag.sub (h : Ag E ρ H G w) {m : List Nat} {H0 : List Ob} (hs : subH m H.length H m H0) (hm : m.Nodup) : Ag (Fr w (pick ρ m) G) (pick ρ m) H0 G w := by
  have hget : ∀ (i : Nat) x, (pick ρ m)[i]? = some x → ∃ k, m[i]? = some k ∧ ρ[k]? = some x := by
    intro i x hx
    obtain ⟨k, hk, rfl⟩ := pick_get hx
    have hi : i < H0.length := by rw [subH_len hs]; exact (List.getElem?_eq_some_iff.1 hk).1
    obtain ⟨k', hk', hH⟩ := subH_get hs i _ (List.getElem?_eq_getElem hi)
    rw [hk] at hk'; simp at hk'; subst hk'
    have : k < ρ.length := by rw [h.len]; exact (List.getElem?_eq_some_iff.1 hH).1
    exact ⟨k, hk, by simp [List.getElem?_eq_getElem this]⟩
  refine ⟨by rw [subH_len hs]; simp [pick], ?_, ?_, ?_, h.ext, fun _ _ _ => rfl, Nat.le_refl _, rfl, rfl, rfl, fun i a hi => hi, fun _ _ hx => hx, fun _ _ hx => .inl hx⟩
  · intro i ob x hob hx
    obtain ⟨k, hk, hkx⟩ := hget i x hx
    obtain ⟨k', hk', hH⟩ := subH_get hs i ob hob
    rw [hk] at hk'; simp at hk'; subst hk'
    exact (h.obs k _ x hH hkx).bwd (rn_bwd h.len)
  · intro i j x y b hx hy hxb hyb
    obtain ⟨k, hk, hkx⟩ := hget i x hx
    obtain ⟨k', hk', hky⟩ := hget j y hy
    have := h.apart k k' x y b hkx hky hxb hyb
    subst this
    exact (List.getElem?_inj (List.getElem?_eq_some_iff.1 hk).1 hm).1 (hk.trans hk'.symm)
  · intro i x b hx hxb
    obtain ⟨k, hk, hkx⟩ := hget i x hx
    obtain ⟨h1, h2, _⟩ := h.own k x b hkx hxb
    exact ⟨h1, h2, .inr ⟨i, x, hx, hxb⟩⟩

/-- A contract: for these arguments and objects the function comes to a result and objects of which Post holds. -/
structure Ct (P : Program) (f : FuncId) (args : List SV) (H : List Ob) (G : Gh) (Post : SV → List Ob → Gh → Prop) : Prop where
  enters : ∀ (args : Array Value) (w : World), (callFunc f args).run P w = .ok (.enter f args) w
  calls : ∀ ρ w ys, Ag (Fr w ρ G) ρ H G w → Rvs ρ args ys → Calls P f ys.toArray w fun e w' => ∃ v sv H' G' ρ', e = .returned v ∧ Post sv H' G' ∧ Ag (Fr w ρ G) ρ' H' G' w' ∧ Rv ρ' sv v

/-- The end of a walk: what is behind it can be told as Post says. -/
structure Fin (E : Env) (Post : SV → List Ob → Gh → Prop) (sv : SV) (s : St) : Prop where
  out : ∀ ρ w v, Ag E ρ s.H s.G w → Rv ρ sv v → ∃ ρ' H' G' sv', Post sv' H' G' ∧ Ag E ρ' H' G' w ∧ Rv ρ' sv' v

theorem enters_of {P : Program} {f : FuncId} {fn : Func} {c : Code} (hf : P.funcs[f]? = some fn) (hname : (fn.name == "runtime.NumGoroutine") = false) (hb : fn.body = some c) :
    ∀ (args : Array Value) (w : World), (callFunc f args).run P w = .ok (.enter f args) w := by
  intro args w
  have h1 : fn.name ≠ "runtime.NumGoroutine" := by simpa using hname
  simp [callFunc, hf, h1, hb, mark]

theorem fn_of {P : Program} (hm : P.follows .mixedOrders = true) (Pl : List (Nat × Plan2)) {f : FuncId} {fn : Func} {body : Code} (hf : P.funcs[f]? = some fn) (hb : fn.body = some body)
    (hname : (fn.name == "runtime.NumGoroutine") = false) {args : List SV} {H : List Ob} {G : Gh} {Post : SV → List Ob → Gh → Prop}
    (hS : ∀ E : Env, E.ρ0.length = H.length → forceSp (args ++ List.replicate (fn.ntmps - args.length) (.v undef)) fun fr => sxC P E Pl body (Kfin P fn.results.toList (Fin E Post)) ⟨fr, H, G⟩) : Ct P f args H G Post := by
  refine ⟨enters_of hf hname hb, fun ρ w ys hA hargs => ?_⟩
  refine (sx_calls hm Pl hf hb hA hargs (hS _ hA.len)).mono fun e w' hh => ?_
  obtain ⟨v, sv, s', ρ', rfl, hfin, hA', hr⟩ := hh
  obtain ⟨ρ2, H2, G2, sv2, hp, hA2, hr2⟩ := hfin.out ρ' w' v hA' hr
  exact ⟨v, sv2, H2, G2, ρ2, rfl, hp, hA2, hr2⟩

/-- A selection of the objects at the end. -/
theorem fin_sel {Post : SV → List Ob → Gh → Prop} {sv : SV} {s : St} (n : Nat) (hn : E.ρ0.length ≤ n) (keep : List Nat) (sv' : SV) (H' : List Ob) (hnd : keep.Nodup) (hk : ∀ i, i < n → keep[i]? = some i)
    (hsub : subH keep s.H.length s.H keep H') (hsv : sv = sv'.map (rn keep s.H.length)) (hp : Post sv' H' s.G) : Fin E Post sv s := by
  refine ⟨fun ρ' w' v hA' hr => ?_⟩
  subst hsv
  have hA2 := hA'.sub hsub hnd
  have hkeep : ∀ (i : Nat) x, (pick ρ' keep)[i]? = some x → ∃ k, keep[i]? = some k ∧ ρ'[k]? = some x := by
    intro i x hx
    obtain ⟨k, hk', rfl⟩ := pick_get hx
    have hi : i < H'.length := by rw [subH_len hsub]; exact (List.getElem?_eq_some_iff.1 hk').1
    obtain ⟨k', hk'', hH⟩ := subH_get hsub i _ (List.getElem?_eq_getElem hi)
    rw [hk'] at hk''; simp at hk''; subst hk''
    have : k < ρ'.length := by rw [hA'.len]; exact (List.getElem?_eq_some_iff.1 hH).1
    exact ⟨k, hk', by simp [List.getElem?_eq_getElem this]⟩
  refine ⟨pick ρ' keep, H', s.G, sv', hp, ?_, hr.bwd (rn_bwd hA'.len)⟩
  refine ⟨hA2.len, hA2.obs, hA2.apart, ?_, hA'.ext, hA'.frame, hA'.size, hA'.os, hA'.tape, hA'.output, ?_, hA'.gold, hA'.gnew⟩
  · intro i x b hx hxb
    obtain ⟨k, hk', hkx⟩ := hkeep i x hx
    exact hA'.own k x b hkx hxb
  · intro i a hi
    have h1 := hA'.old i a hi
    have hin : i < n := Nat.lt_of_lt_of_le (List.getElem?_eq_some_iff.1 hi).1 hn
    unfold pick
    rw [List.getElem?_map, hk i hin]
    simp [h1]

/-! ### a call by a contract -/
def setAll {α : Type} : List α → List Nat → List α → List α
  | l, k :: ks, x :: xs => setAll (l.set k x) ks xs
  | l, _, _ => l
theorem setAll_length {α : Type} : ∀ (l : List α) (ks : List Nat) (xs : List α), (setAll l ks xs).length = l.length
  | l, k :: ks, x :: xs => by rw [setAll, setAll_length]; simp
  | l, [], _ => by simp [setAll]
  | l, _ :: _, [] => by simp [setAll]
theorem setAll_other {α : Type} : ∀ (l : List α) (ks : List Nat) (xs : List α) (j : Nat), j ∉ ks → (setAll l ks xs)[j]? = l[j]?
  | l, k :: ks, x :: xs, j, h => by
    rw [setAll, setAll_other _ ks xs j (fun hh => h (List.mem_cons_of_mem _ hh)), List.getElem?_set_ne (fun e => h (by simp [e]))]
  | l, [], _, _, _ => by simp [setAll]
  | l, _ :: _, [], _, _ => by simp [setAll]
theorem setAll_get {α : Type} : ∀ (l : List α) (ks : List Nat) (xs : List α) (i k : Nat) (x : α), ks.Nodup → ks[i]? = some k → xs[i]? = some x → k < l.length → (setAll l ks xs)[k]? = some x
  | l, k :: ks, x :: xs, 0, k', x', hn, hk, hx, hl => by
    simp at hk hx; subst hk hx
    rw [setAll, setAll_other _ _ _ _ (List.nodup_cons.1 hn).1, List.getElem?_set_self hl]
  | l, k :: ks, x :: xs, i + 1, k', x', hn, hk, hx, hl => by
    rw [setAll]
    exact setAll_get _ ks xs i k' x' (List.nodup_cons.1 hn).2 (by simpa using hk) (by simpa using hx) (by simpa using hl)
  | l, [], _, i, k, x, _, hk, _, _ => by simp at hk
  | l, _ :: _, [], i, k, x, _, _, hx, _ => by simp at hx

/-- The objects of m that are no cells: their slices are gone behind the call. -/
def killOf (H : List Ob) : List Nat → List Nat
  | [] => []
  | k :: ks => match nth H k with
    | some (.cells _ _) => killOf H ks
    | _ => k :: killOf H ks
theorem killOf_ok {H : List Ob} : ∀ {m : List Nat} {k : Nat}, k ∈ m → k ∉ killOf H m → ∃ T xs, H[k]? = some (.cells T xs)
  | [], _, h, _ => by simp at h
  | k0 :: ks, k, h, hn => by
    simp only [killOf, nth_eq] at hn
    split at hn
    · rename_i T xs hk
      rcases List.mem_cons.1 h with rfl | h
      · exact ⟨T, xs, hk⟩
      · exact killOf_ok h hn
    · rcases List.mem_cons.1 h with rfl | h
      · exact absurd (by simp) hn
      · exact killOf_ok h (fun hh => hn (List.mem_cons_of_mem _ hh))

def obmaps (r : Nat → Option Nat) : List Ob → List Ob
  | [] => []
  | ob :: l => ob.map r :: obmaps r l
theorem obmaps_eq (r : Nat → Option Nat) : ∀ l, obmaps r l = l.map (Ob.map r)
  | [] => rfl
  | ob :: l => by simp [obmaps, obmaps_eq r l]
/-- The caller's state behind the call. -/
def callEnd (m : List Nat) (s : St) (sv : SV) (H' : List Ob) (G' : Gh) (K : List Nat → SV → St → Prop) : Prop :=
  match killOf s.H m with
  | [] => s.un fun fr H _ => forceObs (obmaps (rn m H.length) H') fun O => forceSp (setAll H m O ++ O.drop m.length) fun H2 => forceSV (sv.map (rn m H.length)) fun sv' => K m sv' ⟨fr, H2, G'⟩
  | q :: qs => s.un fun fr H _ => forceL (maps (km (q :: qs)) fr) fun fr' =>
    forceObs (setAll (obmaps (km (q :: qs)) H) m (obmaps (rn m H.length) H') ++ (obmaps (rn m H.length) H').drop m.length) fun H2 =>
      forceSV (sv.map (rn m H.length)) fun sv' => K m sv' ⟨fr', H2, G'⟩
mutual
theorem SV.map_id0 {r : Nat → Option Nat} (hr : ∀ i, r i = some i) : ∀ (x : SV), x.map r = x
  | .v _ => rfl
  | .p i o => by simp [SV.map, hr]
  | .s i => by simp [SV.map, hr]
  | .f fn a c => by simp [SV.map, maps_id0 hr a, maps_id0 hr c]
  | .agg xs => by simp [SV.map, maps_id0 hr xs]
  | .tup xs => by simp [SV.map, maps_id0 hr xs]
  | .lit _ => rfl
  | .dead => rfl
theorem maps_id0 {r : Nat → Option Nat} (hr : ∀ i, r i = some i) : ∀ (xs : List SV), maps r xs = xs
  | [] => rfl
  | x :: xs => by simp [maps, SV.map_id0 hr x, maps_id0 hr xs]
end
theorem obmaps_id0 {r : Nat → Option Nat} (hr : ∀ i, r i = some i) : ∀ (l : List Ob), obmaps r l = l
  | [] => rfl
  | ob :: l => by
    rw [obmaps, obmaps_id0 hr l]
    cases ob <;> simp [Ob.map, maps_id0 hr]
theorem km_nil0 : ∀ i, km [] i = some i := fun _ => rfl
theorem callEnd_eq (m : List Nat) (s : St) (sv : SV) (H' : List Ob) (G' : Gh) (K : List Nat → SV → St → Prop) : callEnd m s sv H' G' K =
    K m (sv.map (rn m s.H.length)) ⟨maps (km (killOf s.H m)) s.fr, setAll (obmaps (km (killOf s.H m)) s.H) m (obmaps (rn m s.H.length) H') ++ (obmaps (rn m s.H.length) H').drop m.length, G'⟩ := by
  unfold callEnd
  split
  · rename_i h; rw [h, maps_id0 km_nil0, obmaps_id0 km_nil0, St.un_eq, forceObs_eq, forceSp_eq, forceSV_eq]
  · rename_i q qs h; rw [h, St.un_eq, forceL_eq, forceObs_eq, forceSV_eq]

theorem Ag.back (h : Ag E ρ H G w) {m : List Nat} {H0 : List Ob} (hs : subH m H.length H m H0) (hm : m.Nodup) {w' : World} {ρa : List Value} {Ha : List Ob} {G' : Gh} (hlen : m.length ≤ Ha.length)
    (hA : Ag (Fr w (pick ρ m) G) ρa Ha G' w') :
    ∃ ρ', Ag E ρ' (setAll (obmaps (km (killOf H m)) H) m (obmaps (rn m H.length) Ha) ++ (obmaps (rn m H.length) Ha).drop m.length) G' w' ∧
      (∀ i k x, rn m H.length i = some k → ρa[i]? = some x → ρ'[k]? = some x) ∧ (∀ i k x, km (killOf H m) i = some k → ρ[i]? = some x → ρ'[k]? = some x) ∧ Fp ρ ρ' G G' m w w' := by
  have hmlt : ∀ (i k : Nat), m[i]? = some k → k < H.length := by
    intro i k hk
    have hi : i < H0.length := by rw [subH_len hs]; exact (List.getElem?_eq_some_iff.1 hk).1
    obtain ⟨k', hk', hH⟩ := subH_get hs i _ (List.getElem?_eq_getElem hi)
    rw [hk] at hk'; simp at hk'; subst hk'
    exact (List.getElem?_eq_some_iff.1 hH).1
  have hmem : ∀ k, k ∈ m → ∃ i, m[i]? = some k := fun k hk => List.getElem?_of_mem hk
  have hra : m.length ≤ ρa.length := by rw [hA.len]; exact hlen
  let ρ' := setAll ρ m ρa ++ ρa.drop m.length
  have hl1 : (setAll ρ m ρa).length = H.length := by rw [setAll_length, h.len]
  have hN : ∀ k, k < H.length → k ∉ m → ρ'[k]? = ρ[k]? := fun k hk hkm => by
    show (setAll ρ m ρa ++ ρa.drop m.length)[k]? = _
    rw [List.getElem?_append_left (by rw [hl1]; exact hk), setAll_other _ _ _ _ hkm]
  have hM : ∀ (i k : Nat) x, m[i]? = some k → ρa[i]? = some x → ρ'[k]? = some x := fun i k x hk hx => by
    show (setAll ρ m ρa ++ ρa.drop m.length)[k]? = _
    rw [List.getElem?_append_left (by rw [hl1]; exact hmlt i k hk)]
    exact setAll_get ρ m ρa i k x hm hk hx (by rw [h.len]; exact hmlt i k hk)
  have hX : ∀ (i : Nat) x, m.length ≤ i → ρa[i]? = some x → ρ'[H.length + (i - m.length)]? = some x := fun i x hi hx => by
    show (setAll ρ m ρa ++ ρa.drop m.length)[H.length + (i - m.length)]? = _
    rw [List.getElem?_append_right (by rw [hl1]; omega), hl1, List.getElem?_drop]
    rw [show m.length + (H.length + (i - m.length) - H.length) = i by omega]; exact hx
  have hr : ∀ i k x, rn m H.length i = some k → ρa[i]? = some x → ρ'[k]? = some x := by
    intro i k x hk hx
    unfold rn at hk
    rw [nth_eq] at hk
    cases hmi : m[i]? with
    | some k' => rw [hmi] at hk; simp at hk; subst hk; exact hM i _ x hmi hx
    | none => rw [hmi] at hk; simp at hk; subst hk; exact hX i x (by simpa using hmi) hx
  have hold : ∀ (i k : Nat) T xs, m[i]? = some k → H[k]? = some (.cells T xs) → ∀ x, ρ[k]? = some x → ρ'[k]? = some x := by
    intro i k T xs hk hH x hx
    have ho := h.obs k _ x hH hx
    simp only [ObOK] at ho
    obtain ⟨b, cs, rfl, _⟩ := ho
    exact hM i k _ hk (hA.old i ⟨b, 0, none⟩ (by show (pick ρ m)[i]? = _; unfold pick; rw [List.getElem?_map, hk]; simp [hx]))
  have hkm : ∀ i k x, km (killOf H m) i = some k → ρ[i]? = some x → ρ'[k]? = some x := by
    intro i k x hk hx
    unfold km at hk
    split at hk <;> simp at hk
    subst hk
    rename_i hnk
    have hi : i < H.length := by rw [← h.len]; exact (List.getElem?_eq_some_iff.1 hx).1
    by_cases him : i ∈ m
    · obtain ⟨j, hj⟩ := hmem i him
      obtain ⟨T, xs, hH⟩ := killOf_ok him (fun hh => by rw [memN_iff.2 hh] at hnk; simp at hnk)
      exact hold j i T xs hj hH x hx
    · rw [hN i hi him]; exact hx
  -- who is who
  have whoρ : ∀ (j : Nat) x, ρ'[j]? = some x → (j < H.length ∧ j ∉ m ∧ ρ[j]? = some x) ∨ ∃ i : Nat, ρa[i]? = some x ∧ ((m[i]? = some j) ∨ (m.length ≤ i ∧ j = H.length + (i - m.length))) := by
    intro j x hx
    by_cases hj : j < H.length
    · by_cases hjm : j ∈ m
      · obtain ⟨i, hi⟩ := hmem j hjm
        have : i < ρa.length := Nat.lt_of_lt_of_le (List.getElem?_eq_some_iff.1 hi).1 hra
        have h1 := hM i j _ hi (List.getElem?_eq_getElem this)
        rw [hx] at h1
        exact .inr ⟨i, by rw [List.getElem?_eq_getElem this]; exact h1.symm, .inl hi⟩
      · rw [hN j hj hjm] at hx; exact .inl ⟨hj, hjm, hx⟩
    · have hx' : (setAll ρ m ρa ++ ρa.drop m.length)[j]? = some x := hx
      rw [List.getElem?_append_right (by rw [hl1]; omega), hl1, List.getElem?_drop] at hx'
      exact .inr ⟨m.length + (j - H.length), hx', .inr ⟨by omega, by omega⟩⟩
  have uniq : ∀ (i i' j : Nat), ((m[i]? = some j) ∨ (m.length ≤ i ∧ j = H.length + (i - m.length))) → ((m[i']? = some j) ∨ (m.length ≤ i' ∧ j = H.length + (i' - m.length))) → i = i' := by
    intro i i' j h1 h2
    rcases h1 with h1 | ⟨h1, h1'⟩ <;> rcases h2 with h2 | ⟨h2, h2'⟩
    · exact (List.getElem?_inj (List.getElem?_eq_some_iff.1 h1).1 hm).1 (h1.trans h2.symm)
    · have := hmlt i j h1; omega
    · have := hmlt i' j h2; omega
    · omega
  have uniq' : ∀ (i j j' : Nat), ((m[i]? = some j) ∨ (m.length ≤ i ∧ j = H.length + (i - m.length))) → ((m[i]? = some j') ∨ (m.length ≤ i ∧ j' = H.length + (i - m.length))) → j = j' := by
    intro i j j' h1 h2
    rcases h1 with h1 | ⟨h1, h1'⟩ <;> rcases h2 with h2 | ⟨h2, h2'⟩
    · rw [h1] at h2; simpa using h2
    · have := (List.getElem?_eq_some_iff.1 h1).1; omega
    · have := (List.getElem?_eq_some_iff.1 h2).1; omega
    · omega
  have fof : ∀ b, Fof (pick ρ m) b → ∃ (i k : Nat) (x : Value), m[i]? = some k ∧ ρ[k]? = some x ∧ blkOf x = some b := by
    rintro b ⟨i, x, hx, hxb⟩
    obtain ⟨k, hk, rfl⟩ := pick_get hx
    have : k < ρ.length := by rw [h.len]; exact hmlt i k hk
    rw [List.getElem?_eq_getElem this] at hxb
    exact ⟨i, k, _, hk, List.getElem?_eq_getElem this, hxb⟩
  have away : ∀ (j : Nat) x b, j ∉ m → ρ[j]? = some x → blkOf x = some b → b < w.heap.size ∧ ¬ Fof (pick ρ m) b := by
    intro j x b hjm hx hxb
    refine ⟨(h.own j x b hx hxb).1, fun hF => ?_⟩
    obtain ⟨i, k, y, hk, hy, hyb⟩ := fof b hF
    have := h.apart j k x y b hx hy hxb hyb
    subst this
    exact hjm (List.mem_of_getElem? hk)
  have keep : ∀ b, b < w.heap.size → ¬ Fof (pick ρ m) b → w'.heap[b]? = w.heap[b]? := hA.frame
  have calleeB : ∀ (i : Nat) x b, ρa[i]? = some x → blkOf x = some b → b < w'.heap.size ∧ G' b = none ∧ (w.heap.size ≤ b ∨ Fof (pick ρ m) b) := hA.own
  refine ⟨ρ', ⟨?_, ?_, ?_, ?_, hA.ext, ?_, Nat.le_trans h.size hA.size, hA.os.trans h.os, hA.tape.trans h.tape, hA.output.trans h.output, ?_, fun b o hb => hA.gold b o (h.gold b o hb), ?_⟩, hr, hkm, ?_⟩
  · simp [ρ', setAll_length, obmaps_eq, h.len, hA.len]
  · intro j ob x hob hx
    have hl2 : (setAll (obmaps (km (killOf H m)) H) m (obmaps (rn m H.length) Ha)).length = H.length := by rw [setAll_length, obmaps_eq]; simp
    have fin : ∀ (i : Nat), ρa[i]? = some x → ((m[i]? = some j) ∨ (m.length ≤ i ∧ j = H.length + (i - m.length))) → ObOK ρ' w' ob x := by
      intro i hi hij
      have hiH : i < Ha.length := by rw [← hA.len]; exact (List.getElem?_eq_some_iff.1 hi).1
      have hHa := List.getElem?_eq_getElem hiH
      have hob' : ob = (Ha[i]).map (rn m H.length) := by
        rcases hij with hk | ⟨hge, rfl⟩
        · rw [List.getElem?_append_left (by rw [hl2]; exact hmlt i j hk)] at hob
          have := setAll_get (obmaps (km (killOf H m)) H) m (obmaps (rn m H.length) Ha) i j ((Ha[i]).map (rn m H.length)) hm hk (by rw [obmaps_eq, List.getElem?_map, hHa]; rfl) (by rw [obmaps_eq]; simpa using hmlt i j hk)
          rw [this] at hob; simpa using hob.symm
        · rw [List.getElem?_append_right (by rw [hl2]; omega), hl2, List.getElem?_drop, show m.length + (H.length + (i - m.length) - H.length) = i by omega, obmaps_eq, List.getElem?_map, hHa] at hob
          simpa using hob.symm
      rw [hob']
      exact (hA.obs i _ x hHa hi).fwd hr
    rcases whoρ j x hx with ⟨hj, hjm, hx'⟩ | ⟨i, hi, hij⟩
    · rw [List.getElem?_append_left (by rw [hl2]; exact hj), setAll_other _ _ _ _ hjm, obmaps_eq, List.getElem?_map] at hob
      obtain ⟨ob0, h0, rfl⟩ := Option.map_eq_some_iff.1 hob
      refine ((h.obs j ob0 x h0 hx').mono fun b hb => ?_).fwd hkm
      obtain ⟨h1, h2⟩ := away j x b hjm hx' hb
      exact keep b h1 h2
    · exact fin i hi hij
  · intro j k x y b hx hy hxb hyb
    rcases whoρ j x hx with ⟨hj, hjm, hx'⟩ | ⟨i, hi, hij⟩ <;> rcases whoρ k y hy with ⟨hk, hkm', hy'⟩ | ⟨i', hi', hij'⟩
    · exact h.apart j k x y b hx' hy' hxb hyb
    · obtain ⟨h1, h2⟩ := away j x b hjm hx' hxb
      rcases (calleeB i' y b hi' hyb).2.2 with h3 | h3
      · omega
      · exact absurd h3 h2
    · obtain ⟨h1, h2⟩ := away k y b hkm' hy' hyb
      rcases (calleeB i x b hi hxb).2.2 with h3 | h3
      · omega
      · exact absurd h3 h2
    · have := hA.apart i i' x y b hi hi' hxb hyb
      subst this
      exact uniq' i j k hij hij'
  · intro j x b hx hxb
    rcases whoρ j x hx with ⟨hj, hjm, hx'⟩ | ⟨i, hi, hij⟩
    · obtain ⟨h1, h2, h3⟩ := h.own j x b hx' hxb
      refine ⟨Nat.lt_of_lt_of_le h1 hA.size, ?_, h3⟩
      cases hg : G' b with
      | none => rfl
      | some o =>
        rcases hA.gnew b o hg with h4 | h4 | h4
        · have h4' : G b = some o := h4
          rw [h2] at h4'; simp at h4'
        · have h4' : w.heap.size ≤ b := h4
          omega
        · exact absurd h4 (away j x b hjm hx' hxb).2
    · obtain ⟨h1, h2, h3⟩ := calleeB i x b hi hxb
      refine ⟨h1, h2, ?_⟩
      rcases h3 with h3 | h3
      · exact .inl (Nat.le_trans h.size h3)
      · obtain ⟨i', k, y, hk, hy, hyb⟩ := fof b h3
        exact (h.own k y b hy hyb).2.2
  · intro b hb hF
    have : ¬ Fof (pick ρ m) b := fun hf => by
      obtain ⟨i', k, y, hk, hy, hyb⟩ := fof b hf
      rcases (h.own k y b hy hyb).2.2 with h3 | h3
      · omega
      · exact hF h3
    rw [keep b (Nat.lt_of_lt_of_le hb h.size) this]; exact h.frame b hb hF
  · intro i a hi
    have h1 := h.old i a hi
    have hil : i < H.length := by rw [← h.len]; exact (List.getElem?_eq_some_iff.1 h1).1
    by_cases him : i ∈ m
    · obtain ⟨j, hj⟩ := hmem i him
      exact hM j i _ hj (hA.old j a (by show (pick ρ m)[j]? = _; unfold pick; rw [List.getElem?_map, hj]; simp [h1]))
    · rw [hN i hil him]; exact h1
  · intro b o hb
    rcases hA.gnew b o hb with h4 | h4 | h4
    · exact h.gnew b o h4
    · exact .inr (.inl (Nat.le_trans h.size h4))
    · obtain ⟨i', k, y, hk, hy, hyb⟩ := fof b h4
      exact .inr (h.own k y b hy hyb).2.2
  · refine ⟨fun b hb hT => keep b hb fun hf => ?_, fun i x him hx => ?_, hA.gold⟩
    · obtain ⟨i', k, y, hk, hy, hyb⟩ := fof b hf
      exact hT k (List.mem_of_getElem? hk) y hy hyb
    · have hil : i < H.length := by rw [← h.len]; exact (List.getElem?_eq_some_iff.1 hx).1
      rw [hN i hil him]; exact hx

/-- A call of a function with a contract. m: the caller's objects that are handed on. -/
theorem call_fn {P : Program} {f : FuncId} {args args0 : List SV} {s : St} {K : List Nat → SV → St → Prop} {H0 : List Ob} {Post : SV → List Ob → Gh → Prop} (m : List Nat)
    (hf : Ct P f args0 H0 s.G Post) (hargs : args = maps (rn m s.H.length) args0) (hs : subH m s.H.length s.H m H0) (hm : m.Nodup)
    (hK : ∀ sv H' G', Post sv H' G' → (∀ b o, s.G b = some o → G' b = some o) → m.length ≤ H'.length ∧ callEnd m s sv H' G' K) : CallVC P E f args s K := by
  refine ⟨hf.enters, fun ρ w ys hA hargs' => ?_⟩
  subst hargs
  have hA0 := hA.sub hs hm
  refine (hf.calls (pick ρ m) w ys hA0 (Rvs.bwd (rn_bwd hA.len) hargs')).mono fun e w' hh => ?_
  obtain ⟨v, sv, H', G', ρ', rfl, hp, hA', hr⟩ := hh
  obtain ⟨hlen, hend⟩ := hK sv H' G' hp hA'.gold
  obtain ⟨ρ2, hA2, hr2, hkm2, hfp⟩ := hA.back hs hm hlen hA'
  rw [callEnd_eq] at hend
  exact ⟨v, m, _, _, ρ2, rfl, hend, hA2, Rv.fwd hr2 hr, fun zs hz => Rvs.fwd hkm2 hz, hfp⟩
end
end Go.SX
