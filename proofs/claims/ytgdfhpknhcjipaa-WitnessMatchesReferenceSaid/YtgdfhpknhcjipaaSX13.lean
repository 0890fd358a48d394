/- A symbolic walk: ends of walks. -/
import Derived.Test.YtgdfhpknhcjipaaSX12
namespace Go.SX
set_option linter.unusedVariables false
set_option linter.unusedSimpArgs false

def keepc (n : Nat) (keep : List Nat) : Bool := decide keep.Nodup && (List.range n).all fun i => keep[i]? == some i
theorem fin_mk {E : Env} {n : Nat} (hE : E.ρ0.length = n) {sv : SV} {s : St} {Post : SV → List Ob → Gh → Prop} (keep : List Nat) (sv' : SV) (H' : List Ob) (hk : keepc n keep = true) (hs : subH keep s.H.length s.H keep H')
    (hv : sv = sv'.map (rn keep s.H.length)) (hp : Post sv' H' s.G) : Fin E Post sv s := by
  simp only [keepc, Bool.and_eq_true, decide_eq_true_eq] at hk
  exact fin_sel n (Nat.le_of_eq hE) keep sv' H' hk.1 (fun i hi => by simpa using List.all_eq_true.1 hk.2 i (by simpa using hi)) hs hv hp

def ltb (i k : Nat) : Bool := Nat.ble (i + 1) k
mutual
def bd (k : Nat) : SV → Bool
  | .v _ => true
  | .p i _ => ltb i k
  | .s i => ltb i k
  | .f _ a c => bds k a && bds k c
  | .agg xs => bds k xs
  | .tup xs => bds k xs
  | .lit _ => true
  | .dead => true
def bds (k : Nat) : List SV → Bool
  | [] => true
  | x :: xs => bd k x && bds k xs
end
def bdo (k : Nat) : List Ob → Bool
  | [] => true
  | .cells _ xs :: l => bds k xs && bdo k l
  | .row _ _ _ _ :: l => bdo k l
  | .lit _ _ xs :: l => bds k xs && bdo k l
  | .gone :: l => bdo k l

theorem rn_range {k N i : Nat} (h : ltb i k = true) : rn (List.range k) N i = some i := by
  have : i < k := by unfold ltb at h; exact Nat.le_of_ble_eq_true h
  simp [rn, nth_eq, this]
mutual
theorem bd_map {k N : Nat} : ∀ {x : SV}, bd k x = true → x.map (rn (List.range k) N) = x
  | .v _, _ => rfl
  | .p i o, h => by simp only [bd] at h; simp [SV.map, rn_range h]
  | .s i, h => by simp only [bd] at h; simp [SV.map, rn_range h]
  | .f fn a c, h => by simp only [bd, Bool.and_eq_true] at h; simp [SV.map, bds_map h.1, bds_map h.2]
  | .agg xs, h => by simp only [bd] at h; simp [SV.map, bds_map h]
  | .tup xs, h => by simp only [bd] at h; simp [SV.map, bds_map h]
  | .lit _, _ => rfl
  | .dead, _ => rfl
theorem bds_map {k N : Nat} : ∀ {xs : List SV}, bds k xs = true → maps (rn (List.range k) N) xs = xs
  | [], _ => rfl
  | x :: xs, h => by simp only [bds, Bool.and_eq_true] at h; simp [maps, bd_map h.1, bds_map h.2]
end
theorem bdo_map {k N : Nat} : ∀ {l : List Ob}, bdo k l = true → ∀ ob ∈ l, ob.map (rn (List.range k) N) = ob
  | [], _, ob, h => by simp at h
  | .cells T xs :: l, h, ob, hm => by
    simp only [bdo, Bool.and_eq_true] at h
    rcases List.mem_cons.1 hm with rfl | hm
    · simp [Ob.map, bds_map h.1]
    · exact bdo_map h.2 ob hm
  | .row e sz n xs :: l, h, ob, hm => by
    simp only [bdo] at h
    rcases List.mem_cons.1 hm with rfl | hm
    · rfl
    · exact bdo_map h ob hm
  | .lit T n xs :: l, h, ob, hm => by
    simp only [bdo, Bool.and_eq_true] at h
    rcases List.mem_cons.1 hm with rfl | hm
    · simp [Ob.map, bds_map h.1]
    · exact bdo_map h.2 ob hm
  | .gone :: l, h, ob, hm => by
    simp only [bdo] at h
    rcases List.mem_cons.1 hm with rfl | hm
    · rfl
    · exact bdo_map h ob hm

/-- The first k objects are handed back as they are. -/
theorem fin_id {E : Env} {n : Nat} (hE : E.ρ0.length = n) {sv : SV} {s : St} {Post : SV → List Ob → Gh → Prop} (k : Nat) (hn : Nat.ble n k = true) (hb : bdo k (s.H.take k) = true) (hl : Nat.beq (s.H.take k).length k = true) (hv : bd k sv = true)
    (hp : Post sv (s.H.take k) s.G) : Fin E Post sv s := by
  have hl' : (s.H.take k).length = k := Nat.eq_of_beq_eq_true hl
  have hmap := bdo_map (N := s.H.length) hb
  refine fin_sel n (Nat.le_of_eq hE) (List.range k) sv (s.H.take k) List.nodup_range (fun i hi => by have := Nat.le_of_ble_eq_true hn; rw [List.getElem?_range (by omega)]) ?_ (bd_map hv).symm hp
  have key : ∀ (j : Nat) (obs : List Ob), (∀ (i : Nat) ob, obs[i]? = some ob → (s.H.take k)[j + i]? = some ob) → subH (List.range k) s.H.length s.H (List.range' j obs.length) obs := by
    intro j obs
    induction obs generalizing j with
    | nil => intro _; exact trivial
    | cons ob obs ih =>
      intro h
      have h0 := h 0 ob (by simp)
      simp only [List.length_cons, List.range'_succ, subH]
      refine ⟨?_, ih (j + 1) fun i ob' hi => ?_⟩
      · have h0' : (s.H.take k)[j]? = some ob := by simpa using h0
        rw [hmap ob (List.mem_of_getElem? h0'), nth_eq]
        rw [List.getElem?_take] at h0'
        split at h0'
        · exact h0'
        · simp at h0'
      · have := h (i + 1) ob' (by simpa using hi)
        rwa [show j + (i + 1) = j + 1 + i by omega] at this
  have := key 0 (s.H.take k) (fun i ob hi => by rw [Nat.zero_add]; exact hi)
  rw [hl', ← List.range_eq_range'] at this
  exact this

/-- Behind a call that was handed cells alone. -/
theorem callEnd_cells {m : List Nat} {s : St} {sv : SV} {H' : List Ob} {G' : Gh} {K : List Nat → SV → St → Prop} (hk : killOf s.H m = [])
    (h : K m (sv.map (rn m s.H.length)) ⟨s.fr, setAll s.H m (obmaps (rn m s.H.length) H') ++ (obmaps (rn m s.H.length) H').drop m.length, G'⟩) : callEnd m s sv H' G' K := by
  rw [callEnd_eq, hk, maps_id0 km_nil0, obmaps_id0 km_nil0]
  exact h

/-- All objects are handed back as they are. -/
theorem fin_all {E : Env} {Post : SV → List Ob → Gh → Prop} {sv : SV} {s : St} (hp : Post sv s.H s.G) : Fin E Post sv s :=
  ⟨fun ρ w v hA hr => ⟨ρ, s.H, s.G, sv, hp, hA, hr⟩⟩

/-- A frame of n slots of which some are known. -/
def mkF (n : Nat) (l : List (Nat × SV)) : List SV := go (List.replicate n .dead) l
where go : List SV → List (Nat × SV) → List SV
  | fr, [] => fr
  | fr, (i, x) :: l => go (fr.set i x) l

section
variable {E : Env} {ρ : List Value} {H : List Ob} {G : Gh} {w : World}
/-- At the end of a walk: object i is done. -/
theorem fin_done {Post : SV → List Ob → Gh → Prop} {sv : SV} {s : St} (i : Nat) {e sz n : Nat} {xs : List Value} (hH : nth s.H i = some (.row e sz n xs)) (h1 : ∀ v ∈ xs, v.oneCell' = true)
    (h : ∀ A c G', Ghe s.G G' → Sl G' A n c sz xs → Fin E Post (sv.fz i (.slice A n c)) ⟨s.fr, (s.H.map (·.fz i (.slice A n c))).set i .gone, G'⟩) : Fin E Post sv s := by
  refine ⟨fun ρ w v hA hr => ?_⟩
  rw [nth_eq] at hH
  obtain ⟨A, c, G', hρ, hg, hsl, hA'⟩ := hA.done hH h1
  exact (h A c G' hg hsl).out _ w v hA' (hr.fz_ hρ _)

/-- At the end of a walk: object i is done, and nobody knew of its memory. -/
theorem fin_done' {Post : SV → List Ob → Gh → Prop} {sv : SV} {s : St} (i : Nat) {e sz n : Nat} {xs : List Value} (hH : nth s.H i = some (.row e sz n xs)) (h1 : ∀ v ∈ xs, v.oneCell' = true)
    (h : ∀ A c G', Ghe s.G G' → Fresh s.G A → Sl G' A n c sz xs → Fin E Post (sv.fz i (.slice A n c)) ⟨s.fr, (s.H.map (·.fz i (.slice A n c))).set i .gone, G'⟩) : Fin E Post sv s := by
  refine ⟨fun ρ w v hA hr => ?_⟩
  rw [nth_eq] at hH
  obtain ⟨A, c, G', hρ, hg, hfr, _, hsl, hA'⟩ := hA.done4 hH h1
  exact (h A c G' hg hfr hsl).out _ w v hA' (hr.fz_ hρ _)

/-- At a call: object i is done. -/
theorem call_done {P : Program} {f : FuncId} {args : List SV} {s : St} {K : List Nat → SV → St → Prop} (i : Nat) {e sz n : Nat} {xs : List Value} (hH : nth s.H i = some (.row e sz n xs)) (h1 : ∀ v ∈ xs, v.oneCell' = true)
    (h : ∀ A c G', Ghe s.G G' → Sl G' A n c sz xs → CallVC P E f (fzs i (.slice A n c) args) ⟨fzs i (.slice A n c) s.fr, (s.H.map (·.fz i (.slice A n c))).set i .gone, G'⟩ fun T => K (i :: T))
    (he : ∀ (args : Array Value) (w : World), (callFunc f args).run P w = .ok (.enter f args) w) : CallVC P E f args s K := by
  refine ⟨he, fun ρ w ys hA hargs => ?_⟩
  rw [nth_eq] at hH
  obtain ⟨A, c, G', hρ, hg, hsl, hA'⟩ := hA.done hH h1
  refine ((h A c G' hg hsl).calls _ w ys hA' (hargs.fz_ hρ _)).mono fun e w' hh => ?_
  obtain ⟨v, T, sv, s', ρ', rfl, hk, hA2, hr, hfr, hfp⟩ := hh
  refine ⟨v, i :: T, sv, s', ρ', rfl, hk, hA2, hr, fun zs hz => hfr zs (hz.fz_ hρ _), fun b hb hT => ?_, fun j x hj hx => ?_, fun b o hb => hfp.gh b o (hg b o hb)⟩
  · refine hfp.blk b hb fun j hj y hy => ?_
    by_cases hij : i = j
    · subst hij
      rw [List.getElem?_set_self (List.getElem?_eq_some_iff.1 hρ).1] at hy
      simp at hy; subst hy; simp [blkOf]
    · rw [List.getElem?_set_ne hij] at hy
      exact hT j (List.mem_cons_of_mem _ hj) y hy
  · have hij : i ≠ j := fun e => hj (by simp [e])
    exact hfp.ids j x (fun hh => hj (List.mem_cons_of_mem _ hh)) (by rw [List.getElem?_set_ne hij]; exact hx)
end
end Go.SX
