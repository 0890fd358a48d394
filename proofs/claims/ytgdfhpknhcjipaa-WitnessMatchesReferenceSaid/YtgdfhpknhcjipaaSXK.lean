/- Slices of elements of a kind, in memory that nobody changes. -/
import Derived.Test.YtgdfhpknhcjipaaSXG
import Derived.ChangeArms
import Derived.ChangeSame
import Derived.Deep.Slices
import Derived.DataReads
namespace Go.SX
open Go.RowKit Go.Deep
set_option linter.unusedVariables false
set_option linter.unusedSimpArgs false

theorem Gcell.to {G G' : Gh} (hg : Ghe G G') {a : Addr} {v : Value} (h : Gcell G a = some v) : Gcell G' a = some v := by
  unfold Gcell at h ⊢
  cases hb : G a.block with
  | none => simp [hb] at h
  | some o => rw [hg _ _ hb]; rw [hb] at h; exact h
theorem Gat.to {G G' : Gh} (hg : Ghe G G') {a : Addr} {ys : List Value} (h : Gat G a ys) : Gat G' a ys := fun j v hj => Gcell.to hg (h j v hj)
theorem Sl.to {G G' : Gh} (hg : Ghe G G') {A : Option Addr} {n c sz : Nat} {cs : List Value} (h : Sl G A n c sz cs) : Sl G' A n c sz cs :=
  ⟨h.len, h.cap, h.top, fun ad had => (h.there ad had).to hg, h.nil, h.ones⟩
theorem Sl.none_ (G : Gh) (sz : Nat) : Sl G none 0 0 sz [] := ⟨by simp, Nat.le_refl _, by decide, fun ad h => by simp at h, fun _ => ⟨rfl, rfl⟩, fun v hv => by simp at hv⟩

/-- How a thing of the plain side lies in cells. -/
structure Kd (α : Type) where
  sz : Nat
  R : Gh → α → List Value → Prop
  len : ∀ {G x cs}, R G x cs → cs.length = sz
  one : ∀ {G x cs}, R G x cs → ∀ v ∈ cs, v.oneCell' = true
  mono : ∀ {G G' x cs}, Ghe G G' → R G x cs → R G' x cs

/-- Elements and their cells. -/
def All2 {α β : Type} (R : α → β → Prop) : List α → List β → Prop
  | [], [] => True
  | x :: xs, y :: ys => R x y ∧ All2 R xs ys
  | _, _ => False
theorem All2.len {α β : Type} {R : α → β → Prop} : ∀ {xs : List α} {ys : List β}, All2 R xs ys → ys.length = xs.length
  | [], [], _ => rfl
  | _ :: _, _ :: _, h => by simp [h.2.len]
  | [], _ :: _, h => h.elim
  | _ :: _, [], h => h.elim
theorem All2.get {α β : Type} {R : α → β → Prop} : ∀ {xs : List α} {ys : List β}, All2 R xs ys → ∀ (i : Nat) x, xs[i]? = some x → ∃ y, ys[i]? = some y ∧ R x y
  | [], [], _, i, x, h => by simp at h
  | a :: _, b :: _, h, 0, x, hx => by simp at hx; subst hx; exact ⟨b, by simp, h.1⟩
  | a :: _, b :: _, h, i + 1, x, hx => by simpa using h.2.get i x (by simpa using hx)
  | [], _ :: _, h, _, _, _ => h.elim
  | _ :: _, [], h, _, _, _ => h.elim
theorem All2.get' {α β : Type} {R : α → β → Prop} : ∀ {xs : List α} {ys : List β}, All2 R xs ys → ∀ (i : Nat) y, ys[i]? = some y → ∃ x, xs[i]? = some x ∧ R x y
  | [], [], _, i, x, h => by simp at h
  | a :: _, b :: _, h, 0, x, hx => by simp at hx; subst hx; exact ⟨a, by simp, h.1⟩
  | a :: _, b :: _, h, i + 1, x, hx => by simpa using h.2.get' i x (by simpa using hx)
  | [], _ :: _, h, _, _, _ => h.elim
  | _ :: _, [], h, _, _, _ => h.elim
theorem All2.imp {α β : Type} {R R' : α → β → Prop} (hi : ∀ x y, R x y → R' x y) : ∀ {xs : List α} {ys : List β}, All2 R xs ys → All2 R' xs ys
  | [], [], _ => trivial
  | _ :: _, _ :: _, h => ⟨hi _ _ h.1, h.2.imp hi⟩
  | [], _ :: _, h => h.elim
  | _ :: _, [], h => h.elim
theorem All2.app {α β : Type} {R : α → β → Prop} {xs' : List α} {ys' : List β} (h' : All2 R xs' ys') : ∀ {xs : List α} {ys : List β}, All2 R xs ys → All2 R (xs ++ xs') (ys ++ ys')
  | [], [], _ => h'
  | _ :: _, _ :: _, h => ⟨h.1, All2.app h' h.2⟩
  | [], _ :: _, h => h.elim
  | _ :: _, [], h => h.elim
theorem All2.drop_ {α β : Type} {R : α → β → Prop} : ∀ {xs : List α} {ys : List β} (k : Nat), All2 R xs ys → All2 R (xs.drop k) (ys.drop k)
  | [], [], k, _ => by simp [All2]
  | x :: xs, y :: ys, 0, h => by simpa using h
  | x :: xs, y :: ys, k + 1, h => by simpa using All2.drop_ k h.2
  | [], _ :: _, _, h => h.elim
  | _ :: _, [], _, h => h.elim
theorem All2.take_ {α β : Type} {R : α → β → Prop} : ∀ {xs : List α} {ys : List β} (k : Nat), All2 R xs ys → All2 R (xs.take k) (ys.take k)
  | [], [], k, _ => by simp [All2]
  | x :: xs, y :: ys, 0, h => by simp [All2]
  | x :: xs, y :: ys, k + 1, h => by simp only [List.take_succ_cons]; exact ⟨h.1, All2.take_ k h.2⟩
  | [], _ :: _, _, h => h.elim
  | _ :: _, [], _, h => h.elim

section
variable {α : Type}
/-- The cells of a list of elements. -/
def Kd.Cs (d : Kd α) (G : Gh) (l : List α) (cs : List Value) : Prop := ∃ css : List (List Value), All2 (d.R G) l css ∧ cs = css.flatten
theorem Kd.rows_len (d : Kd α) {G : Gh} {l : List α} {css : List (List Value)} (h : All2 (d.R G) l css) : ∀ r ∈ css, r.length = d.sz := by
  intro r hr
  obtain ⟨i, hi⟩ := List.getElem?_of_mem hr
  obtain ⟨x, _, hx⟩ := h.get' i r hi
  exact d.len hx
theorem flen {k : Nat} : ∀ (l : List (List Value)), (∀ r ∈ l, r.length = k) → l.flatten.length = l.length * k
  | [], _ => by simp
  | r :: l, h => by
    rw [List.flatten_cons, List.length_append, flen l (fun r' hr' => h r' (by simp [hr'])), h r (by simp), List.length_cons, Nat.add_mul]
    omega
theorem fdrop {k : Nat} : ∀ (l : List (List Value)) (i : Nat), (∀ r ∈ l, r.length = k) → l.flatten.drop (i * k) = (l.drop i).flatten
  | [], i, _ => by simp
  | r :: l, 0, _ => by simp
  | r :: l, i + 1, h => by
    have hr := h r (by simp)
    rw [List.flatten_cons, List.drop_succ_cons, ← fdrop l i (fun r' hr' => h r' (by simp [hr'])), List.drop_append, hr]
    rw [show (i + 1) * k - k = i * k by rw [Nat.add_mul]; omega]
    rw [List.drop_eq_nil_of_le (by rw [hr, Nat.add_mul]; omega), List.nil_append]
theorem ftake {k : Nat} : ∀ (l : List (List Value)) (i : Nat), (∀ r ∈ l, r.length = k) → l.flatten.take (i * k) = (l.take i).flatten
  | [], i, _ => by simp
  | r :: l, 0, _ => by simp
  | r :: l, i + 1, h => by
    have hr := h r (by simp)
    rw [List.flatten_cons, List.take_succ_cons, List.flatten_cons, ← ftake l i (fun r' hr' => h r' (by simp [hr'])), List.take_append, hr]
    rw [show (i + 1) * k - k = i * k by rw [Nat.add_mul]; omega]
    rw [List.take_of_length_le (by rw [hr, Nat.add_mul]; omega)]
theorem fget {k : Nat} (l : List (List Value)) (h : ∀ r ∈ l, r.length = k) (i : Nat) (r : List Value) (hi : l[i]? = some r) : (l.flatten.drop (i * k)).take k = r := by
  rw [fdrop l i h]
  have : l.drop i = r :: l.drop (i + 1) := by
    rw [List.getElem?_eq_some_iff] at hi
    obtain ⟨hl, rfl⟩ := hi
    rw [List.drop_eq_getElem_cons hl]
  rw [this, List.flatten_cons, List.take_append, h r (List.mem_of_getElem? hi)]
  simp [List.take_of_length_le (show r.length ≤ k by rw [h r (List.mem_of_getElem? hi)]; omega)]

/-- A slice of elements that nobody changes. -/
def Kd.S (d : Kd α) (G : Gh) (A : Option Addr) (c : Nat) (l : List α) : Prop := ∃ css : List (List Value), All2 (d.R G) l css ∧ Sl G A l.length c d.sz css.flatten
theorem Kd.S.to {d : Kd α} {G G' : Gh} {A : Option Addr} {c : Nat} {l : List α} (h : d.S G A c l) (hg : Ghe G G') : d.S G' A c l := by
  obtain ⟨css, h1, h2⟩ := h
  exact ⟨css, h1.imp fun _ _ => d.mono hg, h2.to hg⟩
theorem Kd.S.cap {d : Kd α} {G : Gh} {A : Option Addr} {c : Nat} {l : List α} (h : d.S G A c l) : l.length ≤ c ∧ c ≤ 9223372036854775807 := by
  obtain ⟨css, h1, h2⟩ := h
  exact ⟨h2.cap, h2.top⟩
theorem Kd.S.none_ (d : Kd α) (G : Gh) : d.S G none 0 [] := ⟨[], trivial, Sl.none_ G _⟩
/-- A slice that was built of such elements and is done. -/
theorem Kd.S.of {d : Kd α} {G : Gh} {A : Option Addr} {n c sz : Nat} {cs : List Value} {l : List α} (h : Sl G A n c sz cs) (hn : n = l.length) (hsz : sz = d.sz) (hc : d.Cs G l cs) : d.S G A c l := by
  obtain ⟨css, h1, rfl⟩ := hc
  subst hn hsz
  exact ⟨css, h1, h⟩
theorem Kd.Cs.nil (d : Kd α) (G : Gh) : d.Cs G [] [] := ⟨[], trivial, rfl⟩
theorem Kd.Cs.snoc {d : Kd α} {G : Gh} {l : List α} {cs : List Value} (h : d.Cs G l cs) {x : α} {c : List Value} (hx : d.R G x c) : d.Cs G (l ++ [x]) (cs ++ c) := by
  obtain ⟨css, h1, rfl⟩ := h
  exact ⟨css ++ [c], All2.app (xs' := [x]) (ys' := [c]) ⟨hx, trivial⟩ h1, by simp⟩
theorem Kd.Cs.app {d : Kd α} {G : Gh} {l l' : List α} {cs cs' : List Value} (h : d.Cs G l cs) (h' : d.Cs G l' cs') : d.Cs G (l ++ l') (cs ++ cs') := by
  obtain ⟨css, h1, rfl⟩ := h
  obtain ⟨css', h2, rfl⟩ := h'
  exact ⟨css ++ css', All2.app h2 h1, by simp⟩
theorem Kd.Cs.to {d : Kd α} {G G' : Gh} {l : List α} {cs : List Value} (h : d.Cs G l cs) (hg : Ghe G G') : d.Cs G' l cs := by
  obtain ⟨css, h1, rfl⟩ := h
  exact ⟨css, h1.imp fun _ _ => d.mono hg, rfl⟩
theorem Kd.Cs.ones {d : Kd α} {G : Gh} {l : List α} {cs : List Value} (h : d.Cs G l cs) : ∀ v ∈ cs, v.oneCell' = true := by
  obtain ⟨css, h1, rfl⟩ := h
  intro v hv
  obtain ⟨r, hr, hv⟩ := List.mem_flatten.1 hv
  obtain ⟨i, hi⟩ := List.getElem?_of_mem hr
  obtain ⟨x, _, hx⟩ := h1.get' i r hi
  exact d.one hx v hv
theorem Kd.Cs.len {d : Kd α} {G : Gh} {l : List α} {cs : List Value} (h : d.Cs G l cs) : cs.length = l.length * d.sz := by
  obtain ⟨css, h1, rfl⟩ := h
  rw [flen _ (d.rows_len h1), h1.len]
theorem Kd.S.cs {d : Kd α} {G : Gh} {A : Option Addr} {c : Nat} {l : List α} (h : d.S G A c l) : ∃ cs, Sl G A l.length c d.sz cs ∧ d.Cs G l cs := by
  obtain ⟨css, h1, h2⟩ := h
  exact ⟨_, h2, css, h1, rfl⟩
/-- The element at an index. -/
theorem Kd.S.ix {d : Kd α} {G : Gh} {A : Option Addr} {c sz : Nat} {l : List α} (h : d.S G A c l) (hsz : sz = d.sz) {j : Int} {n : Nat} (hn : n = l.length) (h0 : 0 ≤ j) (hj : j < l.length) {K : SV → Prop}
    (hK : ∀ ad x cs, l[j.toNat]? = some x → d.R G x cs → Gat G ad cs → K (.v (.pointer (some ad)))) :
    (0 ≤ j ∧ j < (n : Int)) ∧ ∃ cs, Sl G A n c sz cs ∧ ∀ ad, Gat G ad ((cs.drop (j.toNat * sz)).take sz) → K (.v (.pointer (some ad))) := by
  subst hn hsz
  obtain ⟨css, h1, h2⟩ := h
  refine ⟨⟨h0, hj⟩, _, h2, fun ad had => ?_⟩
  have hlt : j.toNat < l.length := by omega
  obtain ⟨r, hr, hR⟩ := h1.get j.toNat _ (List.getElem?_eq_getElem hlt)
  rw [fget css (d.rows_len h1) _ r hr] at had
  exact hK ad _ r (List.getElem?_eq_getElem hlt) hR had
theorem Kd.S.at {d : Kd α} {G : Gh} {A : Option Addr} {c sz : Nat} {l : List α} (h : d.S G A c l) (hsz : sz = d.sz) :
    ∃ cs, Sl G A l.length c sz cs ∧ ∀ j, j < l.length → ∀ ad, Gat G ad ((cs.drop (j * sz)).take sz) → ∃ x xs, l[j]? = some x ∧ d.R G x xs ∧ Gat G ad xs := by
  subst hsz
  obtain ⟨css, h1, h2⟩ := h
  refine ⟨_, h2, fun j hj ad had => ?_⟩
  obtain ⟨r, hr, hR⟩ := h1.get j _ (List.getElem?_eq_getElem hj)
  rw [fget css (d.rows_len h1) _ r hr] at had
  exact ⟨_, r, List.getElem?_eq_getElem hj, hR, had⟩
/-- The rest from an element on. -/
theorem Sl.drop_ {G : Gh} {A A' : Option Addr} {n c sz a : Nat} {cs : List Value} (hs : Sl G A n c sz cs) (ha : a ≤ n) (hA : A' = if c = a then A else A.map (·.add (a * sz))) : Sl G A' (n - a) (c - a) sz (cs.drop (a * sz)) := by
  have hc := hs.cap
  refine ⟨by rw [List.length_drop, hs.len, Nat.sub_mul], by omega, by have := hs.top; omega, fun ad had => ?_, fun hn => ?_, fun v hv => hs.ones v (List.mem_of_mem_drop hv)⟩
  · by_cases hca : c = a
    · have : cs.drop (a * sz) = [] := List.drop_eq_nil_of_le (by rw [hs.len]; exact Nat.mul_le_mul_right _ (by omega))
      rw [this]; intro j v hj; simp at hj
    · rw [if_neg hca] at hA
      cases A with
      | none => rw [hA] at had; simp at had
      | some ad0 =>
        rw [hA] at had
        simp at had
        subst had
        by_cases hl : a * sz < cs.length
        · exact (hs.there ad0 rfl).drop_ _ hl
        · rw [List.drop_eq_nil_of_le (by omega)]; intro j v hj; simp at hj
  · by_cases hca : c = a
    · rw [if_pos hca] at hA
      have := hs.nil (by rw [← hA]; exact hn)
      omega
    · rw [if_neg hca] at hA
      cases A with
      | none => have := hs.nil rfl; omega
      | some ad0 => rw [hA] at hn; simp at hn
theorem Sl.take_ {G : Gh} {A : Option Addr} {n c sz k : Nat} {cs : List Value} (hs : Sl G A n c sz cs) (hk : k ≤ n) : Sl G A k c sz (cs.take (k * sz)) := by
  have hc := hs.cap
  refine ⟨by rw [List.length_take, hs.len, Nat.min_eq_left (Nat.mul_le_mul_right _ hk)], by omega, hs.top, fun ad had => (hs.there ad had).take_ _, fun hn => ?_, fun v hv => hs.ones v (List.mem_of_mem_take hv)⟩
  have := hs.nil hn; omega
theorem Kd.S.drop_ {d : Kd α} {G : Gh} {A A' : Option Addr} {c a : Nat} {l : List α} (hs : d.S G A c l) (ha : a ≤ l.length) (hA : A' = if c = a then A else A.map (·.add (a * d.sz))) : d.S G A' (c - a) (l.drop a) := by
  obtain ⟨css, h1, h2⟩ := hs
  refine ⟨css.drop a, h1.drop_ a, ?_⟩
  have := h2.drop_ ha hA
  rw [fdrop _ _ (d.rows_len h1)] at this
  rwa [List.length_drop]
theorem Kd.S.take_ {d : Kd α} {G : Gh} {A : Option Addr} {c k : Nat} {l : List α} (hs : d.S G A c l) (hk : k ≤ l.length) : d.S G A c (l.take k) := by
  obtain ⟨css, h1, h2⟩ := hs
  refine ⟨css.take k, h1.take_ k, ?_⟩
  have := h2.take_ hk
  rw [ftake _ _ (d.rows_len h1)] at this
  rwa [List.length_take, Nat.min_eq_left hk]
end

/-- Integers of a kind within bounds. -/
def kI (k : IntKind) (lo hi : Int) : Kd Int where
  sz := 1
  R _ x cs := cs = [.int k x] ∧ lo ≤ x ∧ x ≤ hi
  len h := by rw [h.1]; rfl
  one h := by rw [h.1]; intro v hv; simp at hv; subst hv; rfl
  mono _ h := h
/-- Slices. -/
def kS {α : Type} (d : Kd α) : Kd (List α) where
  sz := 1
  R G l cs := ∃ A c, cs = [.slice A l.length c] ∧ d.S G A c l
  len h := by obtain ⟨A, c, rfl, _⟩ := h; rfl
  one h := by obtain ⟨A, c, rfl, _⟩ := h; intro v hv; simp at hv; subst hv; rfl
  mono hg h := by obtain ⟨A, c, h1, h2⟩ := h; exact ⟨A, c, h1, h2.to hg⟩

/-! ### what lies in the world is of its kind -/
/-- What reads at type t is of kind d. -/
def Opens {α : Type} (P : Program) (t : TypeId) (d : Kd α) : Prop :=
  P.cellsOf t = d.sz ∧ ∀ (H : Type) (enc : TypeId × Value → H) (W : World) (base : Nat) (spare : Nat → Bool) (held : Bool) (fuel : Nat) (cs : List Value) (x : DataW H × List MemPlace),
    DataW.trod enc P W base spare held fuel t cs = some x → ∃ y : α, d.R (heapG W) y cs
theorem opens_int {P : Program} {t : TypeId} {k : IntKind} {lo hi : Int} (hc : P.cellsOf t = 1) (ht : P.underlying t = some (.int k)) (hw : ∀ x, (Lit.int k x).wf = true → lo ≤ x ∧ x ≤ hi) : Opens P t (kI k lo hi) :=
  ⟨hc, fun H enc W base spare held fuel cs x h => by
    obtain ⟨n, rfl, _, hwf⟩ := DataW.trod_int ht h
    exact ⟨n, rfl, hw n hwf⟩⟩
theorem opens_slice {α : Type} {P : Program} {t e : TypeId} {d : Kd α} (hc : P.cellsOf t = 1) (ht : P.underlying t = some (.slice e)) (he : Opens P e d) : Opens P t (kS d) :=
  ⟨hc, fun H enc W base spare held fuel cs x h => by
    rcases open_slice ht h with ⟨rfl, _⟩ | ⟨a, len, cap, m, n, D, Pl, rfl, _, hl, hm, hmm, _, hcell⟩
    · exact ⟨[], none, 0, rfl, Kd.S.none_ d _⟩
    · have hle : len ≤ m := by rw [hmm]; split <;> omega
      have hx : ∀ i, i < len → ∃ y : α, ∃ cs', W.cells? base (a.add (i * P.cellsOf e)) (P.cellsOf e) = some cs' ∧ d.R (heapG W) y cs' := by
        intro i hi
        obtain ⟨cs', h1, h2⟩ := hcell i (by omega)
        obtain ⟨y, h3⟩ := he.2 H enc W base spare held n cs' _ h2
        exact ⟨y, cs', h1, h3⟩
      have hpick : ∀ k, k ≤ len → ∃ (ys : List α) (css : List (List Value)), ys.length = k ∧ All2 (d.R (heapG W)) ys css ∧ ∀ i r, css[i]? = some r → W.cells? base (a.add (i * P.cellsOf e)) (P.cellsOf e) = some r := by
        intro k
        induction k with
        | zero => intro _; exact ⟨[], [], rfl, trivial, fun i y hy => by simp at hy⟩
        | succ k ih =>
          intro hk
          obtain ⟨ys, css, hys, h2, hall⟩ := ih (by omega)
          obtain ⟨y, r, hy, hr⟩ := hx k (by omega)
          have hcl := h2.len
          refine ⟨ys ++ [y], css ++ [r], by simp [hys], All2.app (xs' := [y]) (ys' := [r]) ⟨hr, trivial⟩ h2, fun i z hz => ?_⟩
          rcases Nat.lt_or_ge i k with hlt | hge
          · rw [List.getElem?_append_left (by omega)] at hz
            exact hall i z hz
          · have hik : i = k := by
              have := (List.getElem?_eq_some_iff.1 hz).1
              rw [List.length_append, List.length_singleton] at this
              omega
            subst hik
            rw [List.getElem?_append_right (by omega), hcl, hys, Nat.sub_self] at hz
            simp at hz
            subst hz
            exact hy
      obtain ⟨ys, css, hys, h2, hall⟩ := hpick len (Nat.le_refl _)
      have hrl := d.rows_len h2
      refine ⟨ys, some a, cap, by rw [hys], css, h2, ⟨by rw [flen _ hrl, h2.len], by omega, by simpa [maxLen] using hm, fun ad had j v hj => ?_, fun h => by simp at h, ?_⟩⟩
      · simp at had; subst had
        obtain ⟨i, o, r, rfl, hi, ho⟩ := flat_at' css hrl j v hj
        have h3 := World.cells?_some (hall i r hi)
        have hos : o < P.cellsOf e := by rw [he.1, ← hrl r (List.mem_of_getElem? hi)]; exact (List.getElem?_eq_some_iff.1 ho).1
        have h4 := h3.2.2 o hos
        rw [he.1, Go.Deep.add_add, ho] at h4
        exact h4
      · exact Kd.Cs.ones (d := d) (G := heapG W) (l := ys) ⟨css, h2, rfl⟩⟩
where
  flat_at' {k : Nat} : ∀ (l : List (List Value)), (∀ r ∈ l, r.length = k) → ∀ (j : Nat) v, l.flatten[j]? = some v → ∃ (i o : Nat) (r : List Value), j = i * k + o ∧ l[i]? = some r ∧ r[o]? = some v
    | [], _, j, v, h => by simp at h
    | r :: l, hl, j, v, h => by
      rw [List.flatten_cons] at h
      have hr := hl r (by simp)
      rcases Nat.lt_or_ge j r.length with hj | hj
      · rw [List.getElem?_append_left hj] at h
        exact ⟨0, j, r, by omega, by simp, h⟩
      · rw [List.getElem?_append_right hj] at h
        obtain ⟨i, o, r', h1, h2, h3⟩ := flat_at' l (fun r' hr' => hl r' (by simp [hr'])) _ v h
        exact ⟨i + 1, o, r', by rw [Nat.add_mul]; omega, by simpa using h2, h3⟩
/-- The fields from offset o on, each of a kind, n cells in all. -/
inductive OpensF (P : Program) : List Field → Nat → Nat → {β : Type} → (Gh → β → List Value → Prop) → Prop
  | nil (o : Nat) : OpensF P [] o 0 (β := Unit) (fun _ _ cs => cs = [])
  | cons {α β : Type} {f : Field} {fs : List Field} {o n : Nat} {d : Kd α} {R : Gh → β → List Value → Prop} (ho : f.offset = o) (hd : Opens P f.type d) (hr : OpensF P fs (o + d.sz) n R) :
      OpensF P (f :: fs) o (d.sz + n) (β := α × β) (fun G x cs => ∃ c1 c2, cs = c1 ++ c2 ∧ d.R G x.1 c1 ∧ R G x.2 c2)
theorem OpensF.get {P : Program} {fs : List Field} {o n : Nat} {β : Type} {R : Gh → β → List Value → Prop} (h : OpensF P fs o n R) :
    ∀ (H : Type) (enc : TypeId × Value → H) (W : World) (base : Nat) (spare : Nat → Bool) (held : Bool) (m : Nat) (cs : List Value), cs.length = o + n →
      (∀ f ∈ fs, ∃ x, DataW.trod enc P W base spare held m f.type ((cs.drop f.offset).take (P.cellsOf f.type)) = some x) → ∃ y : β, R (heapG W) y (cs.drop o) := by
  induction h with
  | nil o => exact fun H enc W base spare held m cs hl _ => ⟨(), List.drop_eq_nil_of_le (by omega)⟩
  | @cons α β f fs o n d R ho hd hr ih =>
    intro H enc W base spare held m cs hl hf
    obtain ⟨x, hx⟩ := hf f (by simp)
    obtain ⟨y, h1⟩ := hd.2 H enc W base spare held m _ x hx
    obtain ⟨z, h2⟩ := ih H enc W base spare held m cs (by omega) (fun g hg => hf g (by simp [hg]))
    rw [ho, hd.1] at h1
    refine ⟨(y, z), (cs.drop o).take d.sz, cs.drop (o + d.sz), ?_, h1, h2⟩
    rw [← List.drop_drop, List.take_append_drop]
theorem opens_struct {β γ : Type} {P : Program} {t : TypeId} {fs : Array Field} {R : Gh → β → List Value → Prop} {d : Kd γ} (hc : P.cellsOf t = d.sz) (ht : P.underlying t = some (.struct fs)) (hf : OpensF P fs.toList 0 d.sz R)
    (hR : ∀ G x cs, R G x cs → ∃ y, d.R G y cs) : Opens P t d := by
  refine ⟨hc, fun H enc W base spare held fuel cs x h => ?_⟩
  obtain ⟨xs, m, _, _, hl, hxl, hfs⟩ := DataW.trod_struct ht h
  obtain ⟨y, h1⟩ := hf.get H enc W base spare held m cs (by omega) (fun q hq => by
    obtain ⟨i, hi⟩ := List.getElem?_of_mem hq
    have hi' : fs[i]? = some q := by simpa using hi
    have hlt : i < fs.size := (Array.getElem?_eq_some_iff.1 hi').1
    exact ⟨xs[i]'(by omega), by rw [hfs i q hi', List.getElem?_eq_getElem]⟩)
  exact hR _ _ _ (by simpa using h1)
end Go.SX
