/- Thawing: a block that is new and of which all is known may be written. -/
import Derived.Test.YtchebkpcgglllaaSXg
namespace Go.SX
open Go
set_option linter.unusedVariables false
set_option linter.unusedSimpArgs false
section
variable {E : Env} {ρ : List Value} {H : List Ob} {G G' : Gh} {w : World}
/-- Object i is done, and all of its block is known. -/
theorem gh_doneW {s : St} (i : Nat) {e sz n : Nat} {xs : List Value} (hH : nth s.H i = some (.row e sz n xs)) (h1 : ∀ v ∈ xs, v.oneCell' = true) :
    Gh1 s [i] fun g s' => ∃ A c G', Ghe s.G G' ∧ Fresh s.G A ∧ Whl G' A xs ∧ Sl G' A n c sz xs ∧ g = SV.fz i (.slice A n c) ∧ s' = fzSt i (.slice A n c) s G' := by
  refine ⟨fun E ρ w hA => ?_⟩
  rw [nth_eq] at hH
  obtain ⟨A, c, G', hρ, hg, hf, hw, hsl, hA'⟩ := hA.done5 hH h1
  refine ⟨_, _, ρ.set i .nilFunc, ⟨A, c, G', hg, hf, hw, hsl, rfl, rfl⟩, by unfold fzSt; rw [obfz_eq]; exact hA', fun sv v hr => hr.fz_ hρ _, fun zs hz => hz.fz_ hρ _, fun j x hj hx => ?_, fun j y b hy hb => ?_, hg⟩
  · rw [List.getElem?_set_ne (fun e => hj (by simp [e]))]; exact hx
  · by_cases hij : i = j
    · subst hij
      rw [List.getElem?_set_self (List.getElem?_eq_some_iff.1 hρ).1] at hy
      simp at hy; subst hy; simp [blkOf] at hb
    · rw [List.getElem?_set_ne hij] at hy; exact hy
theorem call_fzW {P : Program} {f : FuncId} {args : List SV} {s : St} {K : List Nat → SV → St → Prop} (i : Nat) {e sz n : Nat} {xs : List Value} (hH : nth s.H i = some (.row e sz n xs)) (h1 : ∀ v ∈ xs, v.oneCell' = true)
    (he : ∀ (args : Array Value) (w : World), (callFunc f args).run P w = .ok (.enter f args) w)
    (h : ∀ A c G', Ghe s.G G' → Fresh s.G A → Whl G' A xs → Sl G' A n c sz xs → forceL (fzs i (.slice A n c) args) fun args' => forceL (fzs i (.slice A n c) s.fr) fun fr' => forceObs ((obfz i (.slice A n c) s.H).set i .gone) fun H' => CallVC P E f args' ⟨fr', H', G'⟩ fun T' => K (i :: T')) : CallVC P E f args s K := by
  refine call_gh (gh_doneW i hH h1) he ?_
  rintro _ _ ⟨A, c, G', hg, hf, hw, hs, rfl, rfl⟩
  have := h A c G' hg hf hw hs
  rw [forceL_eq, forceL_eq, forceObs_eq] at this
  rw [svmap_fz]
  exact this
theorem loop_fzW {P : Program} {body : Code} {s : St} {K : Kont} (i : Nat) {e sz n : Nat} {xs : List Value} (hH : nth s.H i = some (.row e sz n xs)) (h1 : ∀ v ∈ xs, v.oneCell' = true)
    (h : ∀ A c G', Ghe s.G G' → Fresh s.G A → Whl G' A xs → Sl G' A n c sz xs → forceL (fzs i (.slice A n c) s.fr) fun fr' => forceObs ((obfz i (.slice A n c) s.H).set i .gone) fun H' => LoopVC P E body ⟨fr', H', G'⟩ K) : LoopVC P E body s K := by
  refine loop_gh (gh_doneW i hH h1) ?_
  rintro _ _ ⟨A, c, G', hg, hf, hw, hs, rfl, rfl⟩
  have := h A c G' hg hf hw hs
  rw [forceL_eq, forceObs_eq] at this
  exact this
theorem fin_fzW {Post : SV → List Ob → Gh → Prop} {sv : SV} {s : St} (i : Nat) {e sz n : Nat} {xs : List Value} (hH : nth s.H i = some (.row e sz n xs)) (h1 : ∀ v ∈ xs, v.oneCell' = true)
    (h : ∀ A c G', Ghe s.G G' → Fresh s.G A → Whl G' A xs → Sl G' A n c sz xs → forceSV (sv.fz i (.slice A n c)) fun sv' => forceL (fzs i (.slice A n c) s.fr) fun fr' => forceObs ((obfz i (.slice A n c) s.H).set i .gone) fun H' => Fin E Post sv' ⟨fr', H', G'⟩) : Fin E Post sv s := by
  refine fin_gh (gh_doneW i hH h1) ?_
  rintro _ _ ⟨A, c, G', hg, hf, hw, hs, rfl, rfl⟩
  have := h A c G' hg hf hw hs
  rw [forceSV_eq, forceL_eq, forceObs_eq] at this
  exact this
/-! ### what is known elsewhere stays -/
/-- Only b may have changed. -/
def Off (b : Nat) (G G' : Gh) : Prop := ∀ k, k ≠ b → G' k = G k
theorem Off.refl (b : Nat) (G : Gh) : Off b G G := fun _ _ => rfl
theorem Off.trans {b : Nat} {G G' G2 : Gh} (h : Off b G G') (h' : Off b G' G2) : Off b G G2 := fun k hk => (h' k hk).trans (h k hk)
theorem Off.ghe {b : Nat} {G0 G G' : Gh} (h : Off b G G') (hg : Ghe G0 G) (hb : G0 b = none) : Ghe G0 G' := fun k o ho => by
  have hk : k ≠ b := fun e => by subst e; rw [hb] at ho; cases ho
  rw [h k hk]; exact hg k o ho
theorem Off.sl {b : Nat} (h : Off b G G') {A : Option Addr} {n c sz : Nat} {cs : List Value} (hs : Sl G A n c sz cs) (hne : ∀ ad, A = some ad → ad.block ≠ b) : Sl G' A n c sz cs := by
  refine ⟨hs.len, hs.cap, hs.top, fun ad had j v hj => ?_, hs.nil, hs.ones⟩
  have h1 := hs.there ad had j v hj
  have hb : (ad.add j).block = ad.block := by unfold Addr.add; split <;> rfl
  unfold Gcell at h1 ⊢
  rw [h _ (by rw [hb]; exact hne ad had)]
  exact h1
theorem Off.whl {b : Nat} (h : Off b G G') {A : Option Addr} {xs : List Value} (hs : Whl G A xs) (hne : ∀ ad, A = some ad → ad.block ≠ b) : Whl G' A xs := fun ad had => by
  obtain ⟨h1, h2, cur, T, h3, h4⟩ := hs ad had
  exact ⟨h1, h2, cur, T, by rw [h _ (hne ad had)]; exact h3, h4⟩
/-- A slice that was fresh where another was known. -/
theorem Whl.ne {A B : Option Addr} {xs : List Value} (h : Whl G A xs) (hf : Fresh G B) : ∀ a b, A = some a → B = some b → a.block ≠ b.block := fun a b ha hb e => by
  obtain ⟨_, _, cur, T, h3, _⟩ := h a ha
  have := hf b hb
  rw [← e, h3] at this; cases this
theorem Whl.sl {A : Option Addr} {n c sz : Nat} {xs : List Value} (h : Whl G A xs) (hl : xs.length = n * sz) (hc : n ≤ c) (ht : c ≤ 9223372036854775807) (hn : A = none → n = 0 ∧ c = 0) (h1 : ∀ v ∈ xs, v.oneCell' = true) : Sl G A n c sz xs := by
  refine ⟨hl, hc, ht, fun ad had j v hj => ?_, hn, h1⟩
  obtain ⟨hsp, hof, cur, T, h3, h4⟩ := h ad had
  obtain ⟨b, off, spot⟩ := ad
  dsimp only at hsp hof h3
  subst hsp hof
  rw [add_off, Nat.zero_add]
  simp only [Gcell, h3]
  rw [← h4, List.getElem?_take] at hj
  split at hj
  · simpa using hj
  · simp at hj
/-- A store into an element of a block of which all is known. -/
theorem th_vc {a ad : Addr} {xs : List Value} {j : Nat} {u : Value} {fr : List SV} {Hs : List Ob} {K : St → Prop} (hW : Whl G (some a) xs) (hE : E.G0 a.block = none) (hj : j < xs.length) (had : ad = a.add j) (hu : u.oneCell' = true)
    (hK : ∀ G', Whl G' (some a) (xs.set j u) → Off a.block G G' → K ⟨fr, Hs, G'⟩) :
    ∃ (cs : Array Value) (T' : TypeId), G ad.block = some (.cells cs T' (0, 0)) ∧ E.G0 ad.block = none ∧ ad.spot = none ∧ ad.off < cs.size ∧ u.oneCell' = true ∧ K ⟨fr, Hs, putG G ad.block (.cells (cs.toList.set ad.off u).toArray T' (0, 0))⟩ := by
  obtain ⟨hsp, hof, cur, T, h3, h4⟩ := hW a rfl
  obtain ⟨b, off, spot⟩ := a
  dsimp only at hsp hof h3 hE hK
  subst hsp hof
  rw [add_off, Nat.zero_add] at had
  subst had
  have hsz : xs.length ≤ cur.size := by
    have := congrArg List.length h4
    rw [List.length_take] at this
    simp at this; omega
  refine ⟨cur, T, h3, hE, rfl, by dsimp only; omega, hu, hK _ ?_ ?_⟩
  · intro a' ha'
    cases ha'
    refine ⟨rfl, rfl, _, T, by unfold putG; rw [if_pos rfl], ?_⟩
    rw [List.length_set]
    show ((cur.toList.set j u).toArray.toList).take xs.length = xs.set j u
    rw [List.toList_toArray, List.take_set, h4]
  · intro k hk
    unfold putG
    rw [if_neg hk]
/-- As fn_of, and what nobody changes is what was known. -/
theorem fn_ofG {P : Program} (hm : P.follows .mixedOrders = true) (Pl : List (Nat × Plan2)) {f : FuncId} {fn : Func} {body : Code} (hf : P.funcs[f]? = some fn) (hb : fn.body = some body)
    (hname : (fn.name == "runtime.NumGoroutine") = false) {args : List SV} {H : List Ob} {G : Gh} {Post : SV → List Ob → Gh → Prop}
    (hS : ∀ E : Env, E.ρ0.length = H.length → E.G0 = G → forceSp (args ++ List.replicate (fn.ntmps - args.length) (.v undef)) fun fr => sxC P E Pl body (Kfin P fn.results.toList (Fin E Post)) ⟨fr, H, G⟩) : Ct P f args H G Post := by
  refine ⟨enters_of hf hname hb, fun ρ w ys hA hargs => ?_⟩
  refine (sx_calls hm Pl hf hb rfl rfl hA hargs (hS _ hA.len rfl)).mono fun e w' hh => ?_
  rcases hh with ⟨v, sv, s', ρ', rfl, hfin, hA', hr⟩ | ⟨x, H', G', ρ', rfl, hp, hA'⟩
  case inr => exact hp.elim
  obtain ⟨ρ2, H2, G2, sv2, hp, hA2, hr2⟩ := hfin.out ρ' w' v hA' hr
  exact ⟨v, sv2, H2, G2, ρ2, rfl, hp, hA2, hr2⟩
end
end Go.SX
