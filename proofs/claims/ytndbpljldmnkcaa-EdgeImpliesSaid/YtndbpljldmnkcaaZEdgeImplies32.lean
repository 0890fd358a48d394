/- An invariant is implied exactly if it is a subset; implication is transitive. No condition. -/
import Derived.Test.YtndbpljldmnkcaaZEdgeImplies31
import Derived.Test.YtndbpljldmnkcaaZEdgeImplies30
namespace Go.Proofs.Ytndbpljldmnkcaa.LEdgeImplies
open Go.RowKit Go.Proofs.Ytndbpljldmnkcaa.PEdgeImplies Go.Proofs.YtndbpljldmnkcaaW.PrintWords Go.Proofs.YtndbpljldmnkcaaW.PrintLast Go.Proofs.Ytndbpljldmnkcaa.LT
theorem awake_is (k : Nat) (hk : 20 ≤ k) : regcertlaw15_awake.f k = some true := at_rounds regcertlaw15_awake.mono hk (show regcertlaw15_awake.f 20 = some true from by decide +kernel)
def Lt (p q : S24) : Prop := p.f0 < q.f0 ∨ (p.f0 = q.f0 ∧ p.f1 < q.f1)
instance (p q : S24) : Decidable (Lt p q) := by unfold Lt; infer_instance
instance : DecidableEq S24 := fun p q => if h : p.f0 = q.f0 ∧ p.f1 = q.f1 then isTrue (by cases p; cases q; simp only at h; rw [h.1, h.2]) else isFalse (by intro e; subst e; exact h ⟨rfl, rfl⟩)
theorem pr_ext (p q : S24) : p = q ↔ p.f0 = q.f0 ∧ p.f1 = q.f1 := ⟨fun h => by rw [h]; exact ⟨rfl, rfl⟩, fun h => by cases p; cases q; simp only at h; rw [h.1, h.2]⟩
theorem lt_trans {p q r : S24} (h : Lt p q) (h' : Lt q r) : Lt p r := by unfold Lt at *; omega
theorem lt_irrefl (p : S24) : ¬ Lt p p := by unfold Lt; omega
theorem lt_tri (p q : S24) : Lt p q ∨ p = q ∨ Lt q p := by rw [pr_ext]; unfold Lt; omega
def Asc (l : List S24) : Prop := l.Pairwise Lt
theorem rdP (xs : List S24) (i : Nat) : rd_T24 xs (i : Int) = xs.getD i z24 := by unfold rd_T24; rw [Int.toNat_natCast]
theorem lt_mk (a b c d : Int) : Lt ⟨a, b⟩ ⟨c, d⟩ ↔ (a < c ∨ (a = c ∧ b < d)) := Iff.rfl
theorem less_is (a b c d : Int) : regcertref11_Less.f a b c d = some (decide (Lt ⟨a, b⟩ ⟨c, d⟩)) := by
  unfold regcertref11_Less.f
  by_cases h : a = c
  · rw [if_pos h]; congr 1; rw [decide_eq_decide, lt_mk]; omega
  · rw [if_neg h]; congr 1; rw [decide_eq_decide, lt_mk]; omega
theorem pless_is (a b c d : Int) : pairset_Less.f a b c d = some (decide (Lt ⟨a, b⟩ ⟨c, d⟩)) := by
  unfold pairset_Less.f
  by_cases h0 : a < c
  · rw [if_pos h0]; congr 1; exact (decide_eq_true ((lt_mk a b c d).2 (.inl h0))).symm
  · rw [if_neg h0]
    by_cases h : a = c
    · rw [if_pos h]; congr 1; rw [decide_eq_decide, lt_mk]; omega
    · rw [if_neg h]; congr 1; exact (decide_eq_false (by rw [lt_mk]; omega)).symm
def ins (p : S24) : List S24 → List S24
  | [] => [p]
  | x :: r => if Lt x p then x :: ins p r else p :: (x :: r).filter (fun y => decide (y ≠ p))
theorem mem_ins (p q : S24) (l : List S24) : q ∈ ins p l ↔ q = p ∨ q ∈ l := by
  induction l with
  | nil => simp [ins]
  | cons x r ih =>
    unfold ins
    by_cases h : Lt x p
    · rw [if_pos h, List.mem_cons, ih, List.mem_cons]
      constructor
      · rintro (h | h | h)
        · exact .inr (.inl h)
        · exact .inl h
        · exact .inr (.inr h)
      · rintro (h | h | h)
        · exact .inr (.inl h)
        · exact .inl h
        · exact .inr (.inr h)
    · rw [if_neg h, List.mem_cons, List.mem_filter, decide_eq_true_eq]
      constructor
      · rintro (h | h)
        · exact .inl h
        · exact .inr h.1
      · rintro (h | h)
        · exact .inl h
        · by_cases e : q = p
          · exact .inl e
          · exact .inr ⟨h, e⟩
theorem asc_ins (p : S24) (l : List S24) (h : Asc l) : Asc (ins p l) := by
  induction l with
  | nil => simp [ins, Asc]
  | cons x r ih =>
    have hx := List.pairwise_cons.1 h
    unfold ins
    by_cases hl : Lt x p
    · rw [if_pos hl]
      refine List.pairwise_cons.2 ⟨fun q hq => ?_, ih hx.2⟩
      rcases (mem_ins p q r).1 hq with rfl | hq
      · exact hl
      · exact hx.1 q hq
    · rw [if_neg hl]
      refine List.pairwise_cons.2 ⟨fun q hq => ?_, List.Pairwise.filter _ h⟩
      rw [List.mem_filter, decide_eq_true_eq] at hq
      have hp : Lt p x ∨ p = x := by rcases lt_tri x p with h' | h' | h'; exact absurd h' hl; exact .inr h'.symm; exact .inl h'
      rcases List.mem_cons.1 hq.1 with e | hr
      · rcases hp with h' | h'
        · rw [e]; exact h'
        · exact absurd (e.trans h'.symm) hq.2
      · rcases hp with h' | h'
        · exact lt_trans h' (hx.1 q hr)
        · rw [h']; exact hx.1 q hr
theorem ins_len (p : S24) (l : List S24) : (ins p l).length ≤ l.length + 1 := by
  induction l with
  | nil => simp [ins]
  | cons x r ih =>
    unfold ins
    by_cases h : Lt x p
    · rw [if_pos h]; simp only [List.length_cons]; omega
    · rw [if_neg h]
      have := List.length_filter_le (fun y => decide (y ≠ p)) (x :: r)
      simp only [List.length_cons] at this ⊢
      omega
def mk (l : List S24) : List S24 := l.foldl (fun acc p => ins p acc) []
theorem fold_asc (l : List S24) : ∀ acc, Asc acc → Asc (l.foldl (fun acc p => ins p acc) acc) := by
  induction l with
  | nil => intro acc h; exact h
  | cons x r ih => intro acc h; exact ih _ (asc_ins x acc h)
theorem asc_mk (l : List S24) : Asc (mk l) := fold_asc l [] List.Pairwise.nil
theorem fold_len (l : List S24) : ∀ acc : List S24, (l.foldl (fun acc p => ins p acc) acc).length ≤ acc.length + l.length := by
  induction l with
  | nil => intro acc; simp
  | cons x r ih => intro acc; have h1 := ih (ins x acc); have h2 := ins_len x acc; simp only [List.foldl_cons, List.length_cons]; omega
theorem mk_len (l : List S24) : (mk l).length ≤ l.length := by have := fold_len l []; simpa [mk] using this
theorem beq_pr (p : S24) (a b : Int) : (!(p.f0 == a) || (!(p.f1 == b))) = decide (p ≠ ⟨a, b⟩) := by
  rw [Bool.eq_iff_iff, decide_eq_true_eq, ne_eq, pr_ext]
  simp only [Bool.or_eq_true, Bool.not_eq_true', beq_eq_false_iff_ne]
  by_cases h : p.f0 = a <;> simp [h]
theorem add_loop (l : List S24) (p : S24) (hl : l.length ≤ 10000) (d : Nat) : ∀ (i k : Nat) (out : List S24) (added : Bool), i + d = l.length → out.length ≤ 2 * i + 1 → 2 * d + 2 ≤ k →
    regcertref11_Add.l0 k l out added (i : Int) p.f0 p.f1 = some (out ++ (if added = true then (l.drop i).filter (fun y => decide (y ≠ p)) else ins p (l.drop i))) := by
  induction d with
  | zero =>
    intro i k out added hi ho hk
    obtain ⟨k, rfl⟩ : ∃ m, k = m + 1 := ⟨k - 1, by omega⟩
    simp only [regcertref11_Add.l0]
    rw [if_neg (by omega), List.drop_eq_nil_of_le (by omega)]
    cases added
    · rw [if_neg (by decide), if_pos (by omega), if_neg (by decide)]; rfl
    · rw [if_pos rfl, if_pos rfl]; simp
  | succ d ih =>
    intro i k out added hi ho hk
    obtain ⟨k, rfl⟩ : ∃ m, k = m + 2 := ⟨k - 2, by omega⟩
    have hd := drop_getD z24 (show i < l.length by omega)
    have hj : ∀ (c : Bool) (o2 : List S24) (a2 : Bool), (c = true → o2 = out ++ [p] ∧ a2 = true) → (c = false → o2 = out ∧ a2 = added) →
        regcertref11_Add.j1 (k + 1) l out added (i : Int) c p.f0 p.f1 = some (o2 ++ (if l.getD i z24 ≠ p then [l.getD i z24] else []) ++ (if a2 = true then (l.drop (i + 1)).filter (fun y => decide (y ≠ p)) else ins p (l.drop (i + 1)))) := by
      intro c o2 a2 hc1 hc2
      simp only [regcertref11_Add.j1]
      rw [rdP, beq_pr, w64 _ (by omega) (by omega), show (i : Int) + 1 = ((i + 1 : Nat) : Int) from by omega]
      cases c
      · obtain ⟨rfl, rfl⟩ := hc2 rfl
        rw [if_neg (by decide), if_pos (by omega), if_pos (by omega)]
        by_cases hp : l.getD i z24 ≠ p
        · rw [if_pos (by simpa using hp), if_pos (by omega), if_pos hp]
          exact ih (i + 1) k _ _ (by omega) (by rw [List.length_append]; simp; omega) (by omega)
        · rw [if_neg (by simpa using hp), if_neg hp, List.append_nil]
          exact ih (i + 1) k _ _ (by omega) (by omega) (by omega)
      · obtain ⟨rfl, rfl⟩ := hc1 rfl
        rw [if_pos rfl, if_pos (by omega)]
        simp only [Option.bind_some]
        rw [if_pos (by omega), if_pos (by omega)]
        by_cases hp : l.getD i z24 ≠ p
        · rw [if_pos (by simpa using hp), if_pos (by rw [List.length_append]; simp; omega), if_pos hp]
          exact ih (i + 1) k _ _ (by omega) (by rw [List.length_append, List.length_append]; simp; omega) (by omega)
        · rw [if_neg (by simpa using hp), if_neg hp, List.append_nil]
          exact ih (i + 1) k _ _ (by omega) (by rw [List.length_append]; simp; omega) (by omega)
    simp only [regcertref11_Add.l0]
    rw [if_pos (by omega), hd]
    cases added
    · rw [if_neg (by decide), if_pos (by omega), rdP, less_is]
      simp only [Option.bind_some]
      rw [if_neg (by decide)]
      unfold ins
      have e : (⟨(l.getD i z24).f0, (l.getD i z24).f1⟩ : S24) = l.getD i z24 := rfl
      have e2 : (⟨p.f0, p.f1⟩ : S24) = p := rfl
      rw [e, e2]
      by_cases hlt : Lt (l.getD i z24) p
      · rw [if_pos hlt, decide_eq_true hlt, Bool.not_true, hj false out false (fun h => by cases h) (fun _ => ⟨rfl, rfl⟩)]
        have hne : l.getD i z24 ≠ p := by intro h; rw [h] at hlt; exact lt_irrefl p hlt
        rw [if_pos hne, if_neg (by decide)]
        simp
      · rw [if_neg hlt, decide_eq_false hlt, Bool.not_false, hj true (out ++ [p]) true (fun _ => ⟨rfl, rfl⟩) (fun h => by cases h)]
        rw [if_pos rfl, List.filter_cons]
        by_cases hne : l.getD i z24 ≠ p
        · rw [if_pos hne, if_pos (by simpa using hne)]; simp
        · rw [if_neg hne, if_neg (by simpa using hne)]; simp
    · rw [if_pos rfl, hj false out true (fun h => by cases h) (fun _ => ⟨rfl, rfl⟩)]
      rw [if_pos rfl, if_pos rfl, List.filter_cons]
      by_cases hne : l.getD i z24 ≠ p
      · rw [if_pos hne, if_pos (by simpa using hne)]; simp
      · rw [if_neg hne, if_neg (by simpa using hne)]; simp
theorem add_is (l : List S24) (p : S24) (hl : l.length ≤ 10000) (k : Nat) (hk : 2 * l.length + 2 ≤ k) : regcertref11_Add.f k l p.f0 p.f1 = some (ins p l) := by
  unfold regcertref11_Add.f
  have h := add_loop l p hl l.length 0 k [] false (by omega) (by simp) hk
  simpa using h
theorem make_is (l : List S24) (hl : l.length ≤ 10000) (k : Nat) (hk : 3 * l.length + 5 ≤ k) : regcertref11_Make.f k l = some (mk l) := by
  unfold regcertref11_Make.f
  have h := loop_all l z24 (fun k (s : List S24) i => regcertref11_Make.l0 k l s i) (fun s p => .inr (ins p s)) (fun s => s) (fun i s => s.length ≤ i) (2 * l.length + 3)
    (fun k s i hk hi hI => by
      refine .inr ⟨_, rfl, by have := ins_len (l.getD i z24) s; omega, ?_⟩
      simp only [regcertref11_Make.l0]
      rw [if_pos (by omega), if_pos (by omega), rdP, add_is _ _ (by omega) k (by omega), w64 _ (by omega) (by omega)]
      rfl)
    (fun k s _ _ => by
      simp only [regcertref11_Make.l0]
      rw [if_neg (by omega)]) k [] (by omega) (by simp)
  rw [h]
  congr 1
  have : ∀ (r : List S24) (s : List S24), runL (α := S24) (σ := List S24) (ρ := List S24) (fun s p => .inr (ins p s)) (fun s => s) s r = r.foldl (fun acc p => ins p acc) s := by
    intro r
    induction r with
    | nil => intro s; rfl
    | cons x r ih => intro s; rw [runL_inr (s' := ins x s) rfl, ih]; rfl
  exact this l []
def missP (a b : List S24) : Option S24 := a.find? (fun p => decide (p ∉ b))
def missR : Option S24 → Int × Int × Bool
  | none => (0, 0, false)
  | some p => (p.f0, p.f1, true)
theorem has_is (l : List S24) (p : S24) (hl : l.length ≤ 10000) (k : Nat) (hk : l.length + 1 ≤ k) : regcertref11_Has.f k l p.f0 p.f1 = some (decide (p ∈ l)) := by
  unfold regcertref11_Has.f
  have h := loop_find l z24 (fun k i => regcertref11_Has.l0 k l i p.f0 p.f1) (fun x => if x = p then some true else none) false 0
    (fun k i _ hi => by
      have e : ((l.getD i z24).f0 == p.f0 && (l.getD i z24).f1 == p.f1) = decide (l.getD i z24 = p) := by
        rw [Bool.eq_iff_iff, decide_eq_true_eq, pr_ext, Bool.and_eq_true, beq_iff_eq, beq_iff_eq]
      have e1 : regcertref11_Has.l0 (k + 1) l (i : Int) p.f0 p.f1 = if decide (l.getD i z24 = p) = true then some true else regcertref11_Has.l0 k l ((i + 1 : Nat) : Int) p.f0 p.f1 := by
        simp only [regcertref11_Has.l0]
        rw [if_pos (by omega), if_pos (by omega), rdP, w64 _ (by omega) (by omega), e]
        rfl
      rw [e1]
      by_cases h : l.getD i z24 = p
      · exact .inl ⟨true, if_pos h, if_pos (decide_eq_true h)⟩
      · exact .inr ⟨if_neg h, if_neg (by rw [decide_eq_true_eq]; exact h)⟩)
    (fun k _ => by
      simp only [regcertref11_Has.l0]
      rw [if_neg (by omega)]) k (by omega)
  rw [h]
  congr 1
  clear h hk hl
  induction l with
  | nil => rfl
  | cons x r ih =>
    rw [List.findSome?_cons]
    by_cases h : x = p
    · rw [if_pos h, h]; simp
    · rw [if_neg h, ih, decide_eq_decide, List.mem_cons]
      constructor
      · exact .inr
      · rintro (h' | h')
        · exact absurd h'.symm h
        · exact h'
theorem refMissing_is (a b : List S24) (ha : a.length ≤ 10000) (hb : b.length ≤ 10000) (k : Nat) (hk : a.length + b.length + 5 ≤ k) : regcertref11_Missing.f k a b = some (missR (missP a b)) := by
  unfold regcertref11_Missing.f
  have h := loop_find a z24 (fun k i => regcertref11_Missing.l0 k a b i) (fun x => if x ∈ b then none else some (x.f0, x.f1, true)) (0, 0, false) (b.length + 1)
    (fun k i hk hi => by
      have e1 : regcertref11_Missing.l0 (k + 1) a b (i : Int) = if decide (a.getD i z24 ∈ b) = true then regcertref11_Missing.l0 k a b ((i + 1 : Nat) : Int) else some ((a.getD i z24).f0, (a.getD i z24).f1, true) := by
        simp only [regcertref11_Missing.l0]
        rw [if_pos (by omega), if_pos (by omega), rdP, w64 _ (by omega) (by omega), has_is b _ hb k (by omega)]
        rfl
      rw [e1]
      by_cases h : a.getD i z24 ∈ b
      · exact .inr ⟨if_pos h, if_pos (decide_eq_true h)⟩
      · exact .inl ⟨_, if_neg h, if_neg (by rw [decide_eq_true_eq]; exact h)⟩)
    (fun k _ => by
      simp only [regcertref11_Missing.l0]
      rw [if_neg (by omega)]) k (by omega)
  rw [h]
  congr 1
  clear h hk ha
  unfold missP
  induction a with
  | nil => rfl
  | cons x r ih =>
    rw [List.findSome?_cons, List.find?_cons]
    by_cases h : x ∈ b
    · rw [if_pos h, decide_eq_false (fun h' => h' h)]; exact ih
    · rw [if_neg h, decide_eq_true h]; rfl
theorem asc_getD {l : List S24} (h : Asc l) {i j : Nat} (hij : i < j) (hj : j < l.length) : Lt (l.getD i z24) (l.getD j z24) := by
  have := List.pairwise_iff_getElem.1 h i j (by omega) hj hij
  rw [List.getD_eq_getElem?_getD, List.getD_eq_getElem?_getD, List.getElem?_eq_getElem (by omega), List.getElem?_eq_getElem hj]
  exact this
theorem mem_getD {l : List S24} {p : S24} : p ∈ l ↔ ∃ j, j < l.length ∧ l.getD j z24 = p := by
  constructor
  · intro h
    obtain ⟨j, hj, rfl⟩ := List.getElem_of_mem h
    exact ⟨j, hj, by rw [List.getD_eq_getElem?_getD, List.getElem?_eq_getElem hj]; rfl⟩
  · rintro ⟨j, hj, rfl⟩; exact getD_in z24 hj
theorem pmiss_loop (a b : List S24) (hA : Asc a) (hB : Asc b) (ha : a.length ≤ 10000) (hb : b.length ≤ 10000) (d : Nat) : ∀ (x i k : Nat), (a.length - x) + (b.length - i) = d → x ≤ a.length → i ≤ b.length → 2 * (a.length - x) + (b.length - i) + 1 ≤ k →
    (∀ j, j < i → x < a.length → Lt (b.getD j z24) (a.getD x z24)) →
    (pairset_Missing.l0 k b (i : Int) a (a.length : Int) (x : Int) = some (missR (missP (a.drop x) b))) ∧
    (x < a.length → pairset_Missing.l1 (k - 1) b (i : Int) a (a.length : Int) (x : Int) (a.getD x z24).f0 (a.getD x z24).f1 = some (missR (missP (a.drop x) b))) := by
  induction d using Nat.strongRecOn with
  | _ d ih =>
    intro x i k hd hx hi hk hinv
    have hl1 : x < a.length → pairset_Missing.l1 (k - 1) b (i : Int) a (a.length : Int) (x : Int) (a.getD x z24).f0 (a.getD x z24).f1 = some (missR (missP (a.drop x) b)) := by
      intro hxa
      obtain ⟨m, rfl⟩ : ∃ m, k = m + 2 := ⟨k - 2, by omega⟩
      rw [show m + 2 - 1 = m + 1 by omega]
      have hdr := drop_getD z24 hxa
      have hgone : (a.getD x z24 ∉ b) → missP (a.drop x) b = some (a.getD x z24) := by
        intro h
        unfold missP
        rw [hdr, List.find?_cons, decide_eq_true h]
      have hfound : (a.getD x z24 ∈ b) → missP (a.drop x) b = missP (a.drop (x + 1)) b := by
        intro h
        unfold missP
        rw [hdr, List.find?_cons, decide_eq_false (fun h' => h' h)]
      simp only [pairset_Missing.l1]
      by_cases c0 : i < b.length
      · rw [if_pos (by omega), if_pos (by omega), rdP, pless_is]
        simp only [Option.bind_some, decide_eq_true_eq]
        have e : (⟨(b.getD i z24).f0, (b.getD i z24).f1⟩ : S24) = b.getD i z24 := rfl
        have e2 : (⟨(a.getD x z24).f0, (a.getD x z24).f1⟩ : S24) = a.getD x z24 := rfl
        rw [e, e2]
        by_cases c1 : Lt (b.getD i z24) (a.getD x z24)
        · rw [if_pos c1, w64 _ (by omega) (by omega), show (i : Int) + 1 = ((i + 1 : Nat) : Int) from by omega]
          have h := (ih (d - 1) (by omega) x (i + 1) (m + 1) (by omega) hx (by omega) (by omega) (fun j hj hxa => by
            rcases Nat.lt_or_ge j i with h' | h'
            · exact hinv j h' hxa
            · obtain rfl : j = i := by omega
              exact c1)).2 hxa
          rw [show m + 1 - 1 = m by omega] at h
          exact h
        · rw [if_neg c1, if_neg (by omega), beq_pr, e2]
          by_cases c2 : b.getD i z24 = a.getD x z24
          · rw [if_neg (by simpa using c2), w64 _ (by omega) (by omega), show (x : Int) + 1 = ((x + 1 : Nat) : Int) from by omega, hfound (mem_getD.2 ⟨i, c0, c2⟩)]
            exact (ih (d - 1) (by omega) (x + 1) i m (by omega) (by omega) hi (by omega) (fun j hj hxa2 => lt_trans (hinv j hj hxa) (asc_getD hA (by omega) hxa2))).1
          · rw [if_pos (by simpa using c2), hgone]
            · rfl
            · intro hm
              obtain ⟨j, hj, hje⟩ := mem_getD.1 hm
              rcases Nat.lt_trichotomy j i with h | h | h
              · have := hinv j h hxa; rw [hje] at this; exact lt_irrefl _ this
              · rw [h] at hje; exact c2 hje
              · have := asc_getD hB h hj; rw [hje] at this; exact c1 this
      · rw [if_neg (by omega), if_pos (by omega), hgone]
        · rfl
        · intro hm
          obtain ⟨j, hj, hje⟩ := mem_getD.1 hm
          have := hinv j (by omega) hxa; rw [hje] at this; exact lt_irrefl _ this
    refine ⟨?_, hl1⟩
    obtain ⟨m, rfl⟩ : ∃ m, k = m + 1 := ⟨k - 1, by omega⟩
    by_cases c : x < a.length
    · have h := hl1 c
      rw [show m + 1 - 1 = m by omega] at h
      simp only [pairset_Missing.l0]
      rw [if_pos (by omega), if_pos (by omega), if_pos (by omega), rdP]
      exact h
    · simp only [pairset_Missing.l0]
      rw [if_neg (by omega), List.drop_eq_nil_of_le (by omega)]
      rfl
theorem pmissing_is (a b : List S24) (hA : Asc a) (hB : Asc b) (ha : a.length ≤ 10000) (hb : b.length ≤ 10000) (k : Nat) (hk : 2 * a.length + b.length + 1 ≤ k) : pairset_Missing.f k a b = some (missR (missP a b)) := by
  unfold pairset_Missing.f
  have h := (pmiss_loop a b hA hB ha hb (a.length + b.length) 0 0 k (by omega) (by omega) (by omega) (by omega) (fun j hj => by omega)).1
  simpa using h
def impR : Option S24 → Int × Int × Int
  | none => (0, 0, 0)
  | some p => (p.f0, p.f1, 22)
theorem implies_is (o w : List S24) (hO : Asc o) (hW : Asc w) (ho : o.length ≤ 10000) (hw : w.length ≤ 10000) (k : Nat) (hk : 2 * w.length + o.length + 1 ≤ k) : edge_Implies.f k o w = some (impR (missP w o)) := by
  unfold edge_Implies.f
  rw [pmissing_is w o hW hO hw ho k hk]
  simp only [Option.bind_some]
  cases missP w o <;> rfl
theorem missP_none (a b : List S24) : missP a b = none ↔ ∀ p ∈ a, p ∈ b := by
  unfold missP
  rw [List.find?_eq_none]
  constructor
  · intro h p hp; have := h p hp; simpa using this
  · intro h p hp; have := h p hp; simpa using this
end Go.Proofs.Ytndbpljldmnkcaa.LEdgeImplies
namespace Go.Proofs.Ytndbpljldmnkcaa.Pure
open Go.RowKit Go.Proofs.Ytndbpljldmnkcaa.PEdgeImplies Go.Proofs.YtndbpljldmnkcaaW.PrintWords Go.Proofs.YtndbpljldmnkcaaW.PrintLast Go.Proofs.Ytndbpljldmnkcaa.LT Go.Proofs.Ytndbpljldmnkcaa.LEdgeImplies
theorem EdgeImplies : regcertlaw15_EdgeImplies.Pure := by
  intro a b c ha hb hc
  refine ⟨1000, ?_⟩
  have hT : ∀ f : Bool, f = true → regcertlaw15_EdgeImplies.j0 1000 a b c f = some true := by
    intro f hf
    subst hf
    simp only [regcertlaw15_EdgeImplies.j0, if_true]
    rw [awake_is 999 (by decide)]; rfl
  unfold regcertlaw15_EdgeImplies.f
  rw [awake_is 1000 (by decide)]
  simp only [Option.bind_some, if_true]
  by_cases c0 : (a.length : Int) > 60
  · rw [if_pos c0]; exact hT true rfl
  · rw [if_neg c0]
    by_cases c1 : (b.length : Int) > 60
    · rw [if_pos c1]; exact hT true rfl
    · rw [if_neg c1]
      by_cases c2 : (c.length : Int) > 60
      · exact hT _ (decide_eq_true c2)
      · rw [decide_eq_false c2]
        have la := mk_len a
        have lb := mk_len b
        have lc := mk_len c
        simp only [regcertlaw15_EdgeImplies.j0]
        rw [if_neg (by decide), make_is a (by omega) 999 (by omega), make_is b (by omega) 999 (by omega), make_is c (by omega) 999 (by omega)]
        simp only [Option.bind_some]
        rw [implies_is _ _ (asc_mk a) (asc_mk b) (by omega) (by omega) 999 (by omega), refMissing_is _ _ (by omega) (by omega) 999 (by omega)]
        simp only [Option.bind_some]
        have hj : ∀ e : Int, (e = 0 → missP (mk b) (mk a) = none) → regcertlaw15_EdgeImplies.j1 999 (mk a) (mk b) (mk c) e false = some true := by
          intro e he
          simp only [regcertlaw15_EdgeImplies.j1]
          rw [if_neg (by decide), implies_is _ _ (asc_mk b) (asc_mk c) (by omega) (by omega) 998 (by omega), implies_is _ _ (asc_mk a) (asc_mk c) (by omega) (by omega) 998 (by omega)]
          simp only [Option.bind_some]
          by_cases e0 : e = 0
          · rw [if_pos e0]
            have h1 := (missP_none _ _).1 (he e0)
            cases h2 : missP (mk c) (mk b) with
            | some q => simp [impR]
            | none =>
              have h3 := (missP_none _ _).1 h2
              have h4 : missP (mk c) (mk a) = none := (missP_none _ _).2 (fun p hp => h1 p (h3 p hp))
              rw [h4]
              simp [impR]
          · rw [if_neg e0]
        cases h : missP (mk b) (mk a) with
        | none =>
          simp only [impR, missR]
          exact hj 0 (fun _ => h)
        | some p =>
          simp only [impR, missR]
          simp only [beq_self_eq_true, Bool.not_true, Bool.or_self, Bool.false_eq_true, if_false, bne_self_eq_false, if_true]
          exact hj 22 (fun h => by cases h)
end Go.Proofs.Ytndbpljldmnkcaa.Pure
