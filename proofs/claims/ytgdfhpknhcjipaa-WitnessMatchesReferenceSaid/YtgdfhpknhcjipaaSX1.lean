/- A symbolic walk: values, objects and the relation between a symbolic state and a world. -/
import Derived.WalkKit
import Derived.Orders
namespace Go.SX

/-- A symbolic value: what is known; a pointer into object i at a cell; the slice that owns object i; function values, structs, tuples; a value of which nothing is known. -/
inductive SV where
  | v (x : Value)
  | p (i off : Nat)
  | s (i : Nat)
  | f (fn : Fn) (first cap : List SV)
  | agg (xs : List SV)
  | tup (xs : List SV)
  | lit (b : Bool)
  | dead

/-- The block of a pointer to a block's first cell, and of a slice that begins there. -/
def base : Value → Option Nat
  | .pointer (some ⟨b, 0, none⟩) => some b
  | .slice (some ⟨b, 0, none⟩) _ _ => some b
  | _ => none

mutual
def Rv (ρ : List Value) : SV → Value → Prop
  | .v x, y => y = x
  | .p i off, y => ∃ x b, ρ[i]? = some x ∧ base x = some b ∧ y = .pointer (some ⟨b, off, none⟩)
  | .s i, y => ρ[i]? = some y
  | .f fn a c, y => ∃ a' c', y = .func fn a' c' ∧ Rvs ρ a a'.toList ∧ Rvs ρ c c'.toList
  | .agg xs, y => ∃ ys, y = .agg ys ∧ Rvs ρ xs ys.toList
  | .tup xs, y => ∃ ys, y = .tuple ys ∧ Rvs ρ xs ys.toList
  | .lit b, y => y = .bool b
  | .dead, _ => True
def Rvs (ρ : List Value) : List SV → List Value → Prop
  | [], ys => ys = []
  | x :: xs, ys => ∃ y yt, ys = y :: yt ∧ Rv ρ x y ∧ Rvs ρ xs yt
end

mutual
def SV.kill (i : Nat) : SV → SV
  | .v x => .v x
  | .p j o => if Nat.beq j i then .dead else .p j o
  | .s j => if Nat.beq j i then .dead else .s j
  | .f fn a c => .f fn (kills i a) (kills i c)
  | .agg xs => .agg (kills i xs)
  | .tup xs => .tup (kills i xs)
  | .lit b => .lit b
  | .dead => .dead
def kills (i : Nat) : List SV → List SV
  | [] => []
  | x :: xs => x.kill i :: kills i xs
end

mutual
theorem Rv.ext {ρ l : List Value} : ∀ {x : SV} {y : Value}, Rv ρ x y → Rv (ρ ++ l) x y
  | .v _, _, h => by simpa [Rv] using h
  | .p i off, _, h => by
    simp only [Rv] at h ⊢
    obtain ⟨x, b, hb, hx, rfl⟩ := h
    exact ⟨x, b, by rw [List.getElem?_append_left (List.getElem?_eq_some_iff.1 hb).1]; exact hb, hx, rfl⟩
  | .s i, _, h => by
    simp only [Rv] at h ⊢
    rw [List.getElem?_append_left (List.getElem?_eq_some_iff.1 h).1]; exact h
  | .f fn a c, _, h => by
    simp only [Rv] at h ⊢
    obtain ⟨a', c', rfl, h1, h2⟩ := h
    exact ⟨a', c', rfl, Rvs.ext h1, Rvs.ext h2⟩
  | .agg xs, _, h => by
    simp only [Rv] at h ⊢
    obtain ⟨ys, rfl, h1⟩ := h
    exact ⟨ys, rfl, Rvs.ext h1⟩
  | .tup xs, _, h => by
    simp only [Rv] at h ⊢
    obtain ⟨ys, rfl, h1⟩ := h
    exact ⟨ys, rfl, Rvs.ext h1⟩
  | .lit _, _, h => by simpa [Rv] using h
  | .dead, _, _ => by simp [Rv]
theorem Rvs.ext {ρ l : List Value} : ∀ {xs : List SV} {ys : List Value}, Rvs ρ xs ys → Rvs (ρ ++ l) xs ys
  | [], _, h => by simpa [Rvs] using h
  | x :: xs, _, h => by
    simp only [Rvs] at h ⊢
    obtain ⟨y, yt, rfl, h1, h2⟩ := h
    exact ⟨y, yt, rfl, Rv.ext h1, Rvs.ext h2⟩
end

mutual
theorem Rv.kill_ {ρ : List Value} {i : Nat} {u : Value} : ∀ {x : SV} {y : Value}, Rv ρ x y → Rv (ρ.set i u) (x.kill i) y
  | .v _, _, h => by simpa [Rv, SV.kill] using h
  | .p j off, _, h => by
    simp only [SV.kill]
    split
    · simp [Rv]
    · rename_i hne
      simp only [Rv] at h ⊢
      obtain ⟨x, b, hb, hx, rfl⟩ := h
      exact ⟨x, b, by rw [List.getElem?_set_ne (fun e => hne (by simp [e]))]; exact hb, hx, rfl⟩
  | .s j, _, h => by
    simp only [SV.kill]
    split
    · simp [Rv]
    · rename_i hne
      simp only [Rv] at h ⊢
      rw [List.getElem?_set_ne (fun e => hne (by simp [e]))]; exact h
  | .f fn a c, _, h => by
    simp only [Rv, SV.kill] at h ⊢
    obtain ⟨a', c', rfl, h1, h2⟩ := h
    exact ⟨a', c', rfl, Rvs.kill_ h1, Rvs.kill_ h2⟩
  | .agg xs, _, h => by
    simp only [Rv, SV.kill] at h ⊢
    obtain ⟨ys, rfl, h1⟩ := h
    exact ⟨ys, rfl, Rvs.kill_ h1⟩
  | .tup xs, _, h => by
    simp only [Rv, SV.kill] at h ⊢
    obtain ⟨ys, rfl, h1⟩ := h
    exact ⟨ys, rfl, Rvs.kill_ h1⟩
  | .lit _, _, h => by simpa [Rv, SV.kill] using h
  | .dead, _, _ => by simp [Rv, SV.kill]
theorem Rvs.kill_ {ρ : List Value} {i : Nat} {u : Value} : ∀ {xs : List SV} {ys : List Value}, Rvs ρ xs ys → Rvs (ρ.set i u) (kills i xs) ys
  | [], _, h => by simpa [Rvs, kills] using h
  | x :: xs, _, h => by
    simp only [Rvs, kills] at h ⊢
    obtain ⟨y, yt, rfl, h1, h2⟩ := h
    exact ⟨y, yt, rfl, Rv.kill_ h1, Rvs.kill_ h2⟩
end

theorem Rvs.length {ρ : List Value} : ∀ {xs : List SV} {ys : List Value}, Rvs ρ xs ys → ys.length = xs.length
  | [], _, h => by simp only [Rvs] at h; simp [h]
  | x :: xs, _, h => by
    simp only [Rvs] at h
    obtain ⟨y, yt, rfl, _, h2⟩ := h
    simp [h2.length]

theorem Rvs.get {ρ : List Value} : ∀ {xs : List SV} {ys : List Value} {k : Nat} {x : SV}, Rvs ρ xs ys → xs[k]? = some x → ∃ y, ys[k]? = some y ∧ Rv ρ x y
  | [], _, k, x, h, hx => by simp at hx
  | z :: xs, _, k, x, h, hx => by
    simp only [Rvs] at h
    obtain ⟨y, yt, rfl, h1, h2⟩ := h
    cases k with
    | zero => simp at hx; subst hx; exact ⟨y, by simp, h1⟩
    | succ k => exact (by simpa using h2.get (k := k) (x := x) (by simpa using hx))

theorem Rvs.set_ {ρ : List Value} {x : SV} {y : Value} (hv : Rv ρ x y) : ∀ {xs : List SV} {ys : List Value} {k : Nat}, Rvs ρ xs ys → Rvs ρ (xs.set k x) (ys.set k y)
  | [], _, k, h => by simp only [Rvs] at h; simp [h, Rvs]
  | z :: xs, _, k, h => by
    simp only [Rvs] at h
    obtain ⟨y', yt, rfl, h1, h2⟩ := h
    cases k with
    | zero => simp only [List.set_cons_zero, Rvs]; exact ⟨y, yt, rfl, hv, h2⟩
    | succ k => simp only [List.set_cons_succ, Rvs]; exact ⟨y', _, rfl, h1, Rvs.set_ hv h2⟩

theorem Rvs.append {ρ : List Value} : ∀ {xs xs' : List SV} {ys ys' : List Value}, Rvs ρ xs ys → Rvs ρ xs' ys' → Rvs ρ (xs ++ xs') (ys ++ ys')
  | [], _, _, _, h, h' => by simp only [Rvs] at h; subst h; simpa using h'
  | x :: xs, _, _, _, h, h' => by
    simp only [Rvs] at h
    obtain ⟨y, yt, rfl, h1, h2⟩ := h
    simp only [List.cons_append, Rvs]
    exact ⟨y, _, rfl, h1, h2.append h'⟩

theorem Rvs.take_ {ρ : List Value} : ∀ {xs : List SV} {ys : List Value} (k : Nat), Rvs ρ xs ys → Rvs ρ (xs.take k) (ys.take k)
  | [], _, k, h => by simp only [Rvs] at h; subst h; simp [Rvs]
  | x :: xs, _, k, h => by
    simp only [Rvs] at h
    obtain ⟨y, yt, rfl, h1, h2⟩ := h
    cases k with
    | zero => simp [Rvs]
    | succ k => simp only [List.take_succ_cons, Rvs]; exact ⟨y, _, rfl, h1, h2.take_ k⟩

theorem Rvs.drop_ {ρ : List Value} : ∀ {xs : List SV} {ys : List Value} (k : Nat), Rvs ρ xs ys → Rvs ρ (xs.drop k) (ys.drop k)
  | [], _, k, h => by simp only [Rvs] at h; subst h; simp [Rvs]
  | x :: xs, _, k, h => by
    have h0 := h
    simp only [Rvs] at h
    obtain ⟨y, yt, rfl, h1, h2⟩ := h
    cases k with
    | zero => simpa using h0
    | succ k => simpa using h2.drop_ k

theorem Rvs.dead_ {ρ : List Value} : ∀ (ys : List Value), Rvs ρ (List.replicate ys.length .dead) ys
  | [] => by simp [Rvs]
  | y :: ys => by simp only [List.length_cons, List.replicate_succ, Rvs]; exact ⟨y, ys, rfl, by simp [Rv], Rvs.dead_ ys⟩

/-- values that are known -/
def vs (xs : List Value) : List SV := xs.map .v
theorem Rvs.vs_ {ρ : List Value} : ∀ {xs ys : List Value}, Rvs ρ (vs xs) ys → ys = xs
  | [], _, h => by simpa [vs, Rvs] using h
  | x :: xs, _, h => by
    simp only [vs, List.map_cons, Rvs] at h
    obtain ⟨y, yt, rfl, h1, h2⟩ := h
    simp only [Rv] at h1
    rw [h1, Rvs.vs_ (xs := xs) h2]
theorem Rvs.of_vs {ρ : List Value} : ∀ (xs : List Value), Rvs ρ (vs xs) xs
  | [] => by simp [vs, Rvs]
  | x :: xs => by simp only [vs, List.map_cons, Rvs]; exact ⟨x, xs, rfl, by simp [Rv], Rvs.of_vs xs⟩

/-- An object that the walk may change: a row of cells; a slice that the call itself builds; nothing any more. -/
inductive Ob where
  | cells (T : TypeId) (xs : List SV)
  | row (e : TypeId) (size n : Nat) (xs : List Value)
  | lit (T : TypeId) (n : Nat) (xs : List SV)
  | gone

def blkOf : Value → Option Nat
  | .pointer (some a) => some a.block
  | .slice (some a) _ _ => some a.block
  | _ => none

def ObOK (ρ : List Value) (w : World) : Ob → Value → Prop
  | .cells T xs, x => ∃ b cs, x = .pointer (some ⟨b, 0, none⟩) ∧ w.heap[b]? = some (.cells cs T (0, 0)) ∧ Rvs ρ xs cs.toList
  | .row e sz n xs, x => w.ownsRow 0 e sz x n xs
  | .lit T n xs, x => ∃ b cs, x = .slice (some ⟨b, 0, none⟩) n n ∧ w.heap[b]? = some (.cells cs T (0, 0)) ∧ Rvs ρ xs cs.toList
  | .gone, x => x = .nilFunc

def Ob.kill (i : Nat) : Ob → Ob
  | .cells T xs => .cells T (kills i xs)
  | .row e sz n xs => .row e sz n xs
  | .lit T n xs => .lit T n (kills i xs)
  | .gone => .gone

abbrev Gh := Nat → Option Obj

/-- Where the call began: the world, the blocks that it may change, its objects, what nobody changes. -/
structure Env where
  w0 : World
  F : Nat → Prop
  ρ0 : List Value
  G0 : Gh

structure Ag (E : Env) (ρ : List Value) (H : List Ob) (G : Gh) (w : World) : Prop where
  len : ρ.length = H.length
  obs : ∀ (i : Nat) ob x, H[i]? = some ob → ρ[i]? = some x → ObOK ρ w ob x
  apart : ∀ (i j : Nat) x y b, ρ[i]? = some x → ρ[j]? = some y → blkOf x = some b → blkOf y = some b → i = j
  own : ∀ (i : Nat) x b, ρ[i]? = some x → blkOf x = some b → b < w.heap.size ∧ G b = none ∧ (E.w0.heap.size ≤ b ∨ E.F b)
  ext : ∀ b o, G b = some o → w.heap[b]? = some o
  frame : ∀ b, b < E.w0.heap.size → ¬ E.F b → w.heap[b]? = E.w0.heap[b]?
  size : E.w0.heap.size ≤ w.heap.size
  os : w.os = E.w0.os
  tape : w.tape = E.w0.tape
  output : w.output = E.w0.output
  old : ∀ (i : Nat) a, E.ρ0[i]? = some (.pointer (some a)) → ρ[i]? = some (.pointer (some a))
  gold : ∀ b o, E.G0 b = some o → G b = some o
  gnew : ∀ b o, G b = some o → E.G0 b = some o ∨ E.w0.heap.size ≤ b ∨ E.F b

theorem ObOK.mono {ρ : List Value} {w w' : World} {ob : Ob} {x : Value} (h : ObOK ρ w ob x) (hb : ∀ b, blkOf x = some b → w'.heap[b]? = w.heap[b]?) : ObOK ρ w' ob x := by
  cases ob with
  | cells T xs =>
    simp only [ObOK] at h ⊢
    obtain ⟨b, cs, rfl, h1, h2⟩ := h
    exact ⟨b, cs, rfl, by rw [hb b rfl]; exact h1, h2⟩
  | lit T n xs =>
    simp only [ObOK] at h ⊢
    obtain ⟨b, cs, rfl, h1, h2⟩ := h
    exact ⟨b, cs, rfl, by rw [hb b rfl]; exact h1, h2⟩
  | row e sz n xs =>
    simp only [ObOK] at h ⊢
    refine ⟨h.1, ?_⟩
    rcases h.2 with h2 | ⟨g, cap, cur, rfl, hg, hgg, rest⟩
    · exact .inl h2
    · exact .inr ⟨g, cap, cur, rfl, hg, by rw [hb g rfl]; exact hgg, rest⟩
  | gone => exact h

theorem ObOK.ext_ {ρ l : List Value} {w : World} {ob : Ob} {x : Value} (h : ObOK ρ w ob x) : ObOK (ρ ++ l) w ob x := by
  cases ob with
  | cells T xs =>
    simp only [ObOK] at h ⊢
    obtain ⟨b, cs, rfl, h1, h2⟩ := h
    exact ⟨b, cs, rfl, h1, h2.ext⟩
  | lit T n xs =>
    simp only [ObOK] at h ⊢
    obtain ⟨b, cs, rfl, h1, h2⟩ := h
    exact ⟨b, cs, rfl, h1, h2.ext⟩
  | row e sz n xs => exact h
  | gone => exact h

theorem ObOK.kill_ {ρ : List Value} {w : World} {ob : Ob} {x u : Value} {i : Nat} (h : ObOK ρ w ob x) : ObOK (ρ.set i u) w (ob.kill i) x := by
  cases ob with
  | cells T xs =>
    simp only [ObOK, Ob.kill] at h ⊢
    obtain ⟨b, cs, rfl, h1, h2⟩ := h
    exact ⟨b, cs, rfl, h1, h2.kill_⟩
  | lit T n xs =>
    simp only [ObOK, Ob.kill] at h ⊢
    obtain ⟨b, cs, rfl, h1, h2⟩ := h
    exact ⟨b, cs, rfl, h1, h2.kill_⟩
  | row e sz n xs => exact h
  | gone => exact h

theorem ObOK.one {ρ : List Value} {w : World} {ob : Ob} {x : Value} (h : ObOK ρ w ob x) : x.oneCell' = true := by
  cases ob with
  | cells T xs => obtain ⟨b, cs, rfl, _⟩ := h; rfl
  | lit T n xs => obtain ⟨b, cs, rfl, _⟩ := h; rfl
  | row e sz n xs =>
    rcases h.2 with ⟨rfl, _⟩ | ⟨g, cap, cur, rfl, _⟩ <;> rfl
  | gone => subst h; rfl

section
variable {E : Env} {ρ : List Value} {H : List Ob} {G : Gh} {w : World}

theorem Ag.one (h : Ag E ρ H G w) {i : Nat} {x : Value} (hx : ρ[i]? = some x) : x.oneCell' = true := by
  have hi := (List.getElem?_eq_some_iff.1 hx).1
  rw [h.len] at hi
  exact (h.obs i _ x (List.getElem?_eq_getElem hi) hx).one

/-- A world that differs in draws alone. -/
theorem Ag.drawn (h : Ag E ρ H G w) (n : Nat) : Ag E ρ H G { w with drawn := n } :=
  ⟨h.len, fun i ob x a b => (h.obs i ob x a b).mono fun _ _ => rfl, h.apart, h.own, h.ext, h.frame, h.size, h.os, h.tape, h.output, h.old, h.gold, h.gnew⟩

/-- A new object. -/
theorem Ag.push (h : Ag E ρ H G w) {w' : World} {x : Value} {ob : Ob} (hg : w.grownBy w' none)
    (hx : ∀ b, blkOf x = some b → w.heap.size ≤ b ∧ b < w'.heap.size) (hob : ObOK (ρ ++ [x]) w' ob x) : Ag E (ρ ++ [x]) (H ++ [ob]) G w' := by
  have hold : ∀ b, b < w.heap.size → w'.heap[b]? = w.heap[b]? := fun b hb => hg.block b hb (by simp)
  have cases_ : ∀ (i : Nat) y, (ρ ++ [x])[i]? = some y → (ρ[i]? = some y) ∨ (i = ρ.length ∧ y = x) := by
    intro i y hy
    rcases Nat.lt_or_ge i ρ.length with hi | hi
    · exact .inl (by rwa [List.getElem?_append_left hi] at hy)
    · rw [List.getElem?_append_right hi] at hy
      rcases Nat.eq_zero_or_pos (i - ρ.length) with h0 | h0
      · rw [h0] at hy; simp at hy; exact .inr ⟨by omega, hy.symm⟩
      · rw [List.getElem?_eq_none (by simp; omega)] at hy; simp at hy
  refine ⟨by simp [h.len], ?_, ?_, ?_, ?_, ?_, Nat.le_trans h.size hg.size, hg.os.trans h.os, hg.tape.trans h.tape, hg.output.trans h.output, fun i a hi => by rw [List.getElem?_append_left (List.getElem?_eq_some_iff.1 (h.old i a hi)).1]; exact h.old i a hi, h.gold, h.gnew⟩
  · intro i ob' y hob' hy
    rcases cases_ i y hy with hy' | ⟨rfl, rfl⟩
    · have hi : i < H.length := by rw [← h.len]; exact (List.getElem?_eq_some_iff.1 hy').1
      rw [List.getElem?_append_left hi] at hob'
      exact ((h.obs i ob' y hob' hy').mono fun b hb => hold b (h.own i y b hy' hb).1).ext_
    · rw [h.len, List.getElem?_append_right (Nat.le_refl _)] at hob'
      simp at hob'; subst hob'; exact hob
  · intro i j y z b hy hz hyb hzb
    rcases cases_ i y hy with hy' | ⟨rfl, rfl⟩ <;> rcases cases_ j z hz with hz' | ⟨rfl, rfl⟩
    · exact h.apart i j y z b hy' hz' hyb hzb
    · have := (hx b hzb).1; have := (h.own i y b hy' hyb).1; omega
    · have := (hx b hyb).1; have := (h.own j z b hz' hzb).1; omega
    · rfl
  · intro i y b hy hyb
    rcases cases_ i y hy with hy' | ⟨rfl, rfl⟩
    · obtain ⟨a, b', c⟩ := h.own i y b hy' hyb
      exact ⟨Nat.lt_of_lt_of_le a hg.size, b', c⟩
    · obtain ⟨h1, h2⟩ := hx b hyb
      refine ⟨h2, ?_, .inl (Nat.le_trans h.size h1)⟩
      cases hgg : G b with
      | none => rfl
      | some o' =>
        have := h.ext _ _ hgg
        rw [Array.getElem?_eq_some_iff] at this
        have := this.1; omega
  · intro b o' hgg
    have := h.ext b o' hgg
    rw [hold b (by rw [Array.getElem?_eq_some_iff] at this; exact this.1)]; exact this
  · intro b hb hF
    rw [hold b (Nat.lt_of_lt_of_le hb h.size)]; exact h.frame b hb hF

theorem grown_alloc (w : World) (o : Obj) : w.grownBy (w.alloc o) none := World.grownBy_alloc w o none

/-- A changed object. -/
theorem Ag.change (h : Ag E ρ H G w) {w' : World} {i : Nat} {x x' : Value} {ob' : Ob} (hx : ρ[i]? = some x) (hnp : ∀ a, x ≠ .pointer (some a))
    (hg : w.grownBy w' (blkOf x)) (hob : ObOK (ρ.set i x') w' ob' x')
    (hb : ∀ b, blkOf x' = some b → b < w'.heap.size ∧ (blkOf x = some b ∨ w.heap.size ≤ b)) :
    Ag E (ρ.set i x') ((H.map (·.kill i)).set i ob') G w' := by
  have hi : i < ρ.length := (List.getElem?_eq_some_iff.1 hx).1
  have hiH : i < H.length := by rw [← h.len]; exact hi
  have keep : ∀ b, b < w.heap.size → blkOf x ≠ some b → w'.heap[b]? = w.heap[b]? := fun b hb hne => hg.block b hb (fun e => hne e.symm)
  have cases_ : ∀ (j : Nat) y, (ρ.set i x')[j]? = some y → (j = i ∧ y = x') ∨ (j ≠ i ∧ ρ[j]? = some y) := by
    intro j y hy
    by_cases hj : i = j
    · subst hj; rw [List.getElem?_set_self hi] at hy; simp at hy; exact .inl ⟨rfl, hy.symm⟩
    · rw [List.getElem?_set_ne hj] at hy; exact .inr ⟨fun e => hj e.symm, hy⟩
  have hold' : ∀ (j : Nat) a, E.ρ0[j]? = some (.pointer (some a)) → (ρ.set i x')[j]? = some (.pointer (some a)) := fun j a hj => by
    have h1 := h.old j a hj
    by_cases hij : i = j
    · subst hij; rw [hx] at h1; simp at h1; exact absurd h1 (hnp a)
    · rw [List.getElem?_set_ne hij]; exact h1
  refine ⟨by simp [h.len], ?_, ?_, ?_, ?_, ?_, Nat.le_trans h.size hg.size, hg.os.trans h.os, hg.tape.trans h.tape, hg.output.trans h.output, hold', h.gold, h.gnew⟩
  · intro j ob y hob' hy
    rcases cases_ j y hy with ⟨rfl, rfl⟩ | ⟨hj, hy'⟩
    · rw [List.getElem?_set_self (by simpa using hiH)] at hob'; simp at hob'; subst hob'; exact hob
    · rw [List.getElem?_set_ne (fun e => hj e.symm), List.getElem?_map] at hob'
      obtain ⟨ob0, h0, rfl⟩ := Option.map_eq_some_iff.1 hob'
      refine ((h.obs j ob0 y h0 hy').mono fun b hyb => keep b (h.own j y b hy' hyb).1 fun hxb => hj (h.apart j i y x b hy' hx hyb hxb)).kill_
  · intro j k y z b hy hz hyb hzb
    rcases cases_ j y hy with ⟨rfl, rfl⟩ | ⟨hj, hy'⟩ <;> rcases cases_ k z hz with ⟨rfl, rfl⟩ | ⟨hk, hz'⟩
    · rfl
    · rcases (hb b hyb).2 with h1 | h1
      · exact absurd (h.apart k j z x b hz' hx hzb h1) hk
      · have := (h.own k z b hz' hzb).1; omega
    · rcases (hb b hzb).2 with h1 | h1
      · exact absurd (h.apart j k y x b hy' hx hyb h1) hj
      · have := (h.own j y b hy' hyb).1; omega
    · exact h.apart j k y z b hy' hz' hyb hzb
  · intro j y b hy hyb
    rcases cases_ j y hy with ⟨rfl, rfl⟩ | ⟨hj, hy'⟩
    · obtain ⟨h1, h2⟩ := hb b hyb
      refine ⟨h1, ?_⟩
      rcases h2 with h2 | h2
      · exact (h.own j x b hx h2).2
      · refine ⟨?_, .inl (Nat.le_trans h.size h2)⟩
        cases hgg : G b with
        | none => rfl
        | some o' =>
          have := h.ext _ _ hgg
          rw [Array.getElem?_eq_some_iff] at this
          have := this.1; omega
    · obtain ⟨a, b', c⟩ := h.own j y b hy' hyb
      exact ⟨Nat.lt_of_lt_of_le a hg.size, b', c⟩
  · intro b o' hgg
    have he := h.ext b o' hgg
    have hlt : b < w.heap.size := by rw [Array.getElem?_eq_some_iff] at he; exact he.1
    rw [keep b hlt (fun hxb => by have := (h.own i x b hx hxb).2.1; rw [hgg] at this; simp at this)]; exact he
  · intro b hb' hF
    rw [keep b (Nat.lt_of_lt_of_le hb' h.size) (fun hxb => by
      rcases (h.own i x b hx hxb).2.2 with h1 | h1
      · omega
      · exact hF h1)]
    exact h.frame b hb' hF

/-- A store into an object of cells. -/
theorem Ag.store (h : Ag E ρ H G w) {w' : World} {i : Nat} {x : Value} {ob' : Ob} (hx : ρ[i]? = some x)
    (hg : w.grownBy w' (blkOf x)) (hob : ObOK ρ w' ob' x) : Ag E ρ (H.set i ob') G w' := by
  have hi : i < ρ.length := (List.getElem?_eq_some_iff.1 hx).1
  have hiH : i < H.length := by rw [← h.len]; exact hi
  have keep : ∀ b, b < w.heap.size → blkOf x ≠ some b → w'.heap[b]? = w.heap[b]? := fun b hb hne => hg.block b hb (fun e => hne e.symm)
  refine ⟨by simp [h.len], ?_, h.apart, ?_, ?_, ?_, Nat.le_trans h.size hg.size, hg.os.trans h.os, hg.tape.trans h.tape, hg.output.trans h.output, h.old, h.gold, h.gnew⟩
  · intro j ob y hob' hy
    by_cases hj : i = j
    · subst hj
      rw [List.getElem?_set_self hiH] at hob'
      simp at hob'; subst hob'
      rw [hx] at hy; simp at hy; subst hy; exact hob
    · rw [List.getElem?_set_ne hj] at hob'
      exact (h.obs j ob y hob' hy).mono fun b hyb => keep b (h.own j y b hy hyb).1 fun hxb => hj (h.apart i j x y b hx hy hxb hyb)
  · intro j y b hy hyb
    obtain ⟨a, b', c⟩ := h.own j y b hy hyb
    exact ⟨Nat.lt_of_lt_of_le a hg.size, b', c⟩
  · intro b o' hgg
    have he := h.ext b o' hgg
    have hlt : b < w.heap.size := by rw [Array.getElem?_eq_some_iff] at he; exact he.1
    rw [keep b hlt (fun hxb => by have := (h.own i x b hx hxb).2.1; rw [hgg] at this; simp at this)]; exact he
  · intro b hb' hF
    rw [keep b (Nat.lt_of_lt_of_le hb' h.size) (fun hxb => by
      rcases (h.own i x b hx hxb).2.2 with h1 | h1
      · omega
      · exact hF h1)]
    exact h.frame b hb' hF

/-- An object that nobody will change any more: what its block holds is known from now on. -/
theorem Ag.freeze (h : Ag E ρ H G w) {i : Nat} {x : Value} (hx : ρ[i]? = some x) (hnp : ∀ a, x ≠ .pointer (some a)) :
    Ag E (ρ.set i .nilFunc) ((H.map (·.kill i)).set i .gone) (fun b => if blkOf x = some b then w.heap[b]? else G b) w := by
  have hi : i < ρ.length := (List.getElem?_eq_some_iff.1 hx).1
  have hiH : i < H.length := by rw [← h.len]; exact hi
  have cases_ : ∀ (j : Nat) y, (ρ.set i .nilFunc)[j]? = some y → (j = i ∧ y = .nilFunc) ∨ (j ≠ i ∧ ρ[j]? = some y) := by
    intro j y hy
    by_cases hj : i = j
    · subst hj; rw [List.getElem?_set_self hi] at hy; simp at hy; exact .inl ⟨rfl, hy.symm⟩
    · rw [List.getElem?_set_ne hj] at hy; exact .inr ⟨fun e => hj e.symm, hy⟩
  have hold' : ∀ (j : Nat) a, E.ρ0[j]? = some (.pointer (some a)) → (ρ.set i .nilFunc)[j]? = some (.pointer (some a)) := fun j a hj => by
    have h1 := h.old j a hj
    by_cases hij : i = j
    · subst hij; rw [hx] at h1; simp at h1; exact absurd h1 (hnp a)
    · rw [List.getElem?_set_ne hij]; exact h1
  have hgold : ∀ b o, E.G0 b = some o → (if blkOf x = some b then w.heap[b]? else G b) = some o := fun b o hb => by
    have h1 := h.gold b o hb
    rw [if_neg (fun hxb => by have := (h.own i x b hx hxb).2.1; rw [h1] at this; simp at this)]
    exact h1
  have hgnew : ∀ b o, (if blkOf x = some b then w.heap[b]? else G b) = some o → E.G0 b = some o ∨ E.w0.heap.size ≤ b ∨ E.F b := fun b o hb => by
    by_cases hxb : blkOf x = some b
    · exact .inr (h.own i x b hx hxb).2.2
    · rw [if_neg hxb] at hb; exact h.gnew b o hb
  refine ⟨by simp [h.len], ?_, ?_, ?_, ?_, h.frame, h.size, h.os, h.tape, h.output, hold', hgold, hgnew⟩
  · intro j ob y hob' hy
    rcases cases_ j y hy with ⟨rfl, rfl⟩ | ⟨hj, hy'⟩
    · rw [List.getElem?_set_self (by simpa using hiH)] at hob'; simp at hob'; subst hob'; rfl
    · rw [List.getElem?_set_ne (fun e => hj e.symm), List.getElem?_map] at hob'
      obtain ⟨ob0, h0, rfl⟩ := Option.map_eq_some_iff.1 hob'
      exact (h.obs j ob0 y h0 hy').kill_
  · intro j k y z b hy hz hyb hzb
    rcases cases_ j y hy with ⟨rfl, rfl⟩ | ⟨hj, hy'⟩
    · simp [blkOf] at hyb
    · rcases cases_ k z hz with ⟨rfl, rfl⟩ | ⟨hk, hz'⟩
      · simp [blkOf] at hzb
      · exact h.apart j k y z b hy' hz' hyb hzb
  · intro j y b hy hyb
    rcases cases_ j y hy with ⟨rfl, rfl⟩ | ⟨hj, hy'⟩
    · simp [blkOf] at hyb
    · obtain ⟨a, b', c⟩ := h.own j y b hy' hyb
      refine ⟨a, ?_, c⟩
      rw [if_neg (fun hxb => hj (h.apart j i y x b hy' hx hyb hxb))]; exact b'
  · intro b o' hgg
    split at hgg
    · exact hgg
    · exact h.ext b o' hgg
end
end Go.SX
